/- Package bounds: what holds between Run's rounds. bounds.Run of a module with which nothing is wrong, walked. bounds.Run, where the function's number or the module is wrong, walked. trips.Of at a number that is no function's, walked. bounds.Edge, walked: a way of a module with which nothing is wrong. -/
import Derived.Test.YteebpnbdihcfmaaDoorJ26
import Derived.Test.YteebpnbdihcfmaaDoorJ27
import Derived.Test.YteebpnbdihcfmaaDoorJ11
import Derived.Test.YteebpnbdihcfmaaDoorJ08
import Derived.Deep.RegionLawGrows
set_option linter.unusedVariables false
set_option linter.unusedSimpArgs false
set_option maxRecDepth 100000
set_option maxHeartbeats 20000000
namespace Go.Proofs.YteebpnbdihcfmaaDoor
open Go.RowKit
section
theorem way_keep {B : Nat} {w : World} {v : Value} {m : PMod} (hm : ModAt B w v m) (he : (mayP m).e = 0) {fn : Nat} (hfn : fn < m.funcs.length) {rg : Nat} (hrg : (fnAt m fn).regs = rg) :
 ∀ (a : Nat) (inn : List PSpan) (t : Int) (out : List PSpan), a < (fnAt m fn).code.length → LOk rg inn → t ∈ nextP (fnAt m fn) a → wayP m (fnAt m fn) a t inn = some out → LOk rg out := by
 intro a inn t out ha hi ht hw;have hfine := fine_of he;obtain ⟨_, _, _, _, _, _, rfl, _, hfl1, hfl2, fb, fo, hfb, H, hH⟩ := hm;have hx := hfine.ins fn a hfn ha;have hfo := (hH fn (by omega)).2;obtain ⟨_, _, ⟨hcl, _, cb, co, _, hcc⟩, _, _⟩ := hfo;have e : m.funcs.getD fn default = fnAt m fn := rfl;rw [e] at hcl hcc;have h64 := (hcc a (by omega)).2.2.2.2.2;have er : (fnAt m fn).regs.toNat = rg := by rw [hrg]; simp
 have hp : ∀ i, i < (paramsAt m ((fnAt m fn).code.getD a default).n).length → In64 ((paramsAt m ((fnAt m fn).code.getD a default).n).getD i default).lo ∧ In64 ((paramsAt m ((fnAt m fn).code.getD a default).n).getD i default).hi := fun i hi2 => by
  unfold paramsAt at hi2 ⊢;generalize ((fnAt m fn).code.getD a default).n.toNat = q at *;by_cases hq : q < m.funcs.length
  ·obtain ⟨hsl, _, b, o, _, hs⟩ := (hH q (by omega)).2.2.1;exact (hs i (by omega)).2.2
  ·have : m.funcs.getD q default = default := by rw [List.getD_eq_getElem?_getD, List.getElem?_eq_none (by omega)]; rfl
   rw [this] at hi2;exact absurd hi2 (Nat.not_lt_zero i)
 have h := way_ok (hfine.fn fn hfn) hx h64 hp (by rw [er]; exact hi) hw;rw [er] at h;exact h
theorem callsIn_round {l n : Nat} {P : Program} {f : FuncId} {args : Array Value} {w : World} {R : Ending → World → Prop} (h : Calls P f args w R) : CallsIn (Fence.wide.inRound l) n P f args w R := (callsIn_wide.2 h : CallsIn Fence.wide n P f args w R)
structure RI (N : Nat) (A : BAd) (n rg bx t0 mb ab fx p : Nat) (mv fv : List Value) (w0 : World) (s : PBS) (W : World) (iv : Nat → Option (Nat × Nat)) (tg : Nat → Nat) : Prop where
 b : BAt N W { A with iv := iv, tg := tg } n rg s
 x : Own W bx [.pointer (some ⟨A.k, 0, none⟩)]
 bo : Boxes W tg mb ab fx p A.k mv fv
 so : SOk n rg s
 mo : MOk n s
 tx : tg bx = 0
 y0 : tg t0 = 0
 y1 : tg (t0 + 1) = 0
 be : Below w0.heap.size w0 W
 nz : N ≤ W.heap.size
 nw : w0.heap.size ≤ N
 lq : mb < t0 ∧ ab < t0 ∧ fx < t0 ∧ p < t0 ∧ bx < t0 ∧ A.k < t0
 nt : N ≤ t0
section
variable {N : Nat} {A : BAd} {n rg bx t0 mb ab fx p : Nat} {mv fv : List Value} {w0 : World} {s : PBS} {W W' : World} {iv : Nat → Option (Nat × Nat)} {tg : Nat → Nat} {S : Nat → Prop}
theorem RI.keep (h : RI N A n rg bx t0 mb ab fx p mv fv w0 s W iv tg) (hc : Chg S W W') (hS : ∀ x, S x → tg x = 0 ∧ t0 + 2 ≤ x) : RI N A n rg bx t0 mb ab fx p mv fv w0 s W' iv tg := by
 obtain ⟨l1, l2, l3, l4, l5, l6⟩ := h.lq;have no : ∀ x, x < t0 → ¬ S x := fun x hx e => by have := (hS x e).2; omega
 exact ⟨h.b.keep hc (fun x e => (hS x e).1), hc.own h.x (no _ l5), ⟨hc.own h.bo.cm (no _ l1), hc.own h.bo.ca (no _ l2), hc.own h.bo.cf (no _ l3), hc.own h.bo.cp (no _ l4), h.bo.tm, h.bo.ta, h.bo.tf, h.bo.tp⟩, h.so, h.mo, h.tx, h.y0, h.y1,
  h.be.trans (hc.below _ h.be.size (fun k hk e => by have := (hS k e).2; have := h.nw; have := h.nt; omega)), Nat.le_trans h.nz hc.size, h.nw, h.lq, h.nt⟩
theorem RI.below (h : RI N A n rg bx t0 mb ab fx p mv fv w0 s W iv tg) (hb : Below W.heap.size W W') : RI N A n rg bx t0 mb ab fx p mv fv w0 s W' iv tg := h.keep (S := fun _ => False) (Chg.of hb) (fun _ e => e.elim)
/-- the state's blocks are written -/
theorem RI.wr (h : RI N A n rg bx t0 mb ab fx p mv fv w0 s W iv tg) {s' : PBS} {iv' : Nat → Option (Nat × Nat)} {tg' : Nat → Nat} (hb : BAt N W' { A with iv := iv', tg := tg' } n rg s') (hc : Chg (fun x => tg x ≠ 0) W W') (ht : ∀ x, x < t0 + 2 → tg' x = tg x) (hso : SOk n rg s') (hmo : MOk n s') : RI N A n rg bx t0 mb ab fx p mv fv w0 s' W' iv' tg' := by
 obtain ⟨l1, l2, l3, l4, l5, l6⟩ := h.lq;have hx := h.bo.keep hc (fun x e => e);refine ⟨hb, hc.own h.x (fun e => e h.tx), ⟨hx.cm, hx.ca, hx.cf, hx.cp, by rw [ht _ (by omega)]; exact h.bo.tm, by rw [ht _ (by omega)]; exact h.bo.ta, by rw [ht _ (by omega)]; exact h.bo.tf, by rw [ht _ (by omega)]; exact h.bo.tp⟩, hso, hmo, by rw [ht _ (by omega)]; exact h.tx, by rw [ht _ (by omega)]; exact h.y0, by rw [ht _ (by omega)]; exact h.y1,
  h.be.trans (hc.below _ h.be.size (fun k hk e => by have := h.b.lo k e; have := h.nw; omega)), Nat.le_trans h.nz hc.size, h.nw, h.lq, h.nt⟩
theorem RI.turn (h : RI N A n rg bx t0 mb ab fx p mv fv w0 s W iv tg) (c : Turn t0 W W') : RI N A n rg bx t0 mb ab fx p mv fv w0 s W' iv tg := by
 obtain ⟨l1, l2, l3, l4, l5, l6⟩ := h.lq;exact ⟨h.b.turn c l6, h.x.turn c l5, ⟨h.bo.cm.turn c l1, h.bo.ca.turn c l2, h.bo.cf.turn c l3, h.bo.cp.turn c l4, h.bo.tm, h.bo.ta, h.bo.tf, h.bo.tp⟩, h.so, h.mo, h.tx, h.y0, h.y1,
  h.be.trans (c.below.mono (by have := h.nw; have := h.nt; omega)), by rw [c.size]; exact h.nz, h.nw, h.lq, h.nt⟩
/-- the loop's own record stays as it is -/
theorem RI.recd (h : RI N A n rg bx t0 mb ab fx p mv fv w0 s W iv tg) (hc : Chg S W W') (hS : ∀ x, S x → tg x ≠ 0 ∨ t0 + 2 ≤ x) (hz : t0 + 1 < W.heap.size) : ∀ q, t0 ≤ q → q < t0 + 2 → W'.heap[q]? = W.heap[q]? := fun q h1 h2 => by
 refine hc.block q (by omega) (fun e => ?_);have : q = t0 ∨ q = t0 + 1 := by omega
 rcases hS q e with h3 | h3
 ·rcases this with rfl | rfl
  ·exact h3 h.y0
  ·exact h3 h.y1
 ·omega
end
end
section
attribute [local go_sem] Oper.semAt_some
theorem chgR (W : World) (b : Nat) (u v : Value) : Chg (· = b) W ((W.setCell ⟨b, 0, none⟩ u).setCell ⟨b, 1, none⟩ v) :=
 Chg.setCell (S := (· = b)) (Chg.setCell (S := (· = b)) (Chg.refl _ _) (p := ⟨b, 0, none⟩) (Or.inl rfl) _) (p := ⟨b, 1, none⟩) (Or.inl rfl) _
/-- what Run hands back, where nothing is wrong: the spans that stand when no mark is left -/
def RunOk (m : PMod) (fn : Nat) (w : World) (e : Ending) (w' : World) : Prop := ∃ (N rg : Nat) (A : BAd) (s : PBS), (fnAt m fn).regs = rg ∧ RunsS m (fnAt m fn) (startS (fnAt m fn)) s ∧
 e = .returned (.tuple #[.agg #[.slice (some ⟨A.ib, 0, none⟩) (fnAt m fn).code.length A.ic, .slice (some ⟨A.cb, 0, none⟩) (fnAt m fn).code.length A.cc], .int .i64 0]) ∧ BAt N w' A (fnAt m fn).code.length rg s ∧ SOk (fnAt m fn).code.length rg s ∧ w.heap.size ≤ N ∧ Below w.heap.size w w'
theorem run_ok (B : Nat) (m : PMod) (fn : Nat) (ta fa : Option Addr) (tl tc fl fc : Nat) (w : World) (hB : B ≤ w.heap.size) (hB0 : 0 < B) (hmo : ModAt B w (.agg #[.slice ta tl tc, .slice fa fl fc]) m) (hr : RowsAt w) (he : (mayP m).e = 0) (hfn : fn < m.funcs.length) :
 Calls Tryd.prog 7 #[.agg #[.slice ta tl tc, .slice fa fl fc], .int .i64 fn] w (RunOk m fn w) := by
 have HM := Lib.hid hmo; have HRW := Lib.hid hr;have HMay := Lib.hid (fun w' hw hr' => may_any B (.agg #[.slice ta tl tc, .slice fa fl fc]) m w' hw hB0 hr');rw [he] at HMay;obtain ⟨_, _, _, _, _, _, hv, ⟨htl, htm, -⟩, hfs⟩ := hmo;cases hv;obtain ⟨hfl1, hfl2, fb, fo, hfb, H, hH⟩ := hfs;obtain ⟨rfl, hfbB⟩ := hfb (by omega);obtain ⟨hcells, hfo⟩ := hH fn (by omega);generalize H fn = hh at *;generalize hff : m.funcs.getD fn default = f at *;obtain ⟨pa, pl, pc, ca, cl, cc⟩ := hh;have hcl : f.code.length = cl := hfo.2.2.1.1;subst hcl;obtain ⟨g0, g1, g2, g3, g4⟩ := hcells;dsimp only at g0 g1 g2 g3 g4;have hfnl : (fn : Int) < (fl : Int) := by omega
 have q1 : ¬ (fn : Int) < 0 := by omega
 have q2 : decide ((fl : Int) ≤ (fn : Int)) = false := by simp; omega
 have q3 : decide ((fn : Int) < 0) = false := by simp
 have hfine := fine_of he;have hff1 := hfine.fn fn hfn;have hfe : fnAt m fn = f := hff;rw [hfe] at hff1;obtain ⟨rg, hrg⟩ : ∃ rg : Nat, f.regs = rg := ⟨f.regs.toNat, by have := hff1.r1; omega⟩
 have hrg0 : 0 < rg := by have := hff1.r1; omega
 have hrg64 : rg ≤ 64 := by have := hff1.r2; omega
 have hn0 : 0 < f.code.length := hff1.c1;have hn1 : f.code.length ≤ 1024 := hff1.c2;have hpl : f.params.length ≤ rg := by have := hff1.np; omega
 rw [hrg] at g2;have HRG := Lib.hid hrg; have HFF := Lib.hid hff1; have HFE := Lib.hid hfe; have HFI := Lib.hid hfine; have HE := Lib.hid he;have HFO := Lib.hid hfo;clear hfine hff1 hfe hrg hff;clear hH hfb hfo;refine (callsIn_wide (n := 3)).1 ?_;refine callsIn_of_wp_marks Tryd.func7 rfl trivial ?_ rfl;refine wpIn_wide.2 ?_;simp only [Tryd.ntmps7, List.size_toArray, List.length_cons, List.length_nil, Nat.reduceAdd, Nat.reduceSub, Array.replicate_succ, Array.replicate_zero, List.push_toArray, List.append_toArray, List.nil_append, List.cons_append];go_wp2;generalize hW0 : World.alloc _ _ = W0;have hb0 : Below w.heap.size w W0 := by rw [← hW0]; exact bel
 have OM : Own W0 w.heap.size [.slice ta tl tc, .slice (some ⟨fb, fo, none⟩) fl fc] := by rw [← hW0]; exact (Own.new _ _ _).alloc _
 have OA : Own W0 (w.heap.size + 1) [.slice none 0 0, .slice none 0 0] := by rw [← hW0]; exact Own.new' _ _ _ _ (by simp)
 have hz0 : w.heap.size + 2 = W0.heap.size := by rw [← hW0]; simp
 have hz0' : w.heap.size + 2 ≤ W0.heap.size := by omega
 have m2 := own2 OM;have HC := Lib.hid (HMay.out W0 (by omega) (HM.out.same (Same.of hb0 hB)) (HRW.out.same (Same.of hb0 (Nat.le_refl _)) HRW.out.1 hb0.size));clear hW0 HMay hz0;go_step3;go_upto_region 6 with (first | (go_at_call 18; refine HC.out.mono ?_; rintro e w1 ⟨rfl, hb1⟩; have m2b := own2 (OM.below hb1); clear m2) | fail)
 have hz1 := hb1.size;generalize hW2 : World.alloc _ _ = W2;have hbA : Below w1.heap.size w1 W2 := by rw [← hW2]; exact (Below.refl _ _).alloc (Nat.le_refl _) _
 have hz2 := hbA.size;have hb2 : Below w.heap.size w W2 := (hb0.trans (hb1.mono (by omega))).trans (hbA.mono (by omega));have OM2 := (OM.below hb1).below hbA;have OA2 := (OA.below hb1).below hbA;have m2' := own2 OM2;have sm := Same.of hb2 hB;rw [← sm _ _ (by show fb < B; omega)] at g0 g1 g2 g3 g4;clear hW2 m2b hbA OM OA HC hb1;have hm34 := run_make_row' (P := Tryd.prog) 34 40 (.slice none 0 0) 24 Tryd.underlying34 (by kernel_rfl) rfl .i64 .i64 f.code.length (by omega) (by omega);have hm35 := run_make_row' (P := Tryd.prog) 35 47 (.slice none 0 0) 24 Tryd.underlying35 (by kernel_rfl) rfl .i64 .i64 f.code.length (by omega) (by omega);have hm69 := run_make_row' (P := Tryd.prog) 69 4 (.bool false) 1 Tryd.underlying69 (by kernel_rfl) rfl .i64 .i64 f.code.length (by omega) (by omega);have hm47 := run_make_row' (P := Tryd.prog) 47 3 (.int .i64 0) 8 Tryd.underlying47 Tryd.infoI rfl .i64 .i64 f.code.length (by omega) (by omega);have hmc : ∀ z : Value, madeCells #[z] f.code.length = (List.replicate f.code.length z).toArray := madeOne f.code.length;rw [hmc] at hm34 hm35 hm69 hm47;have hml : f.code.length ≤ maxLen := by unfold maxLen; omega
 go_upto_region 8 with (fail)
 generalize hW5 : World.alloc _ _ = W5;have hb5 : Below w.heap.size w W5 := by rw [← hW5]; exact bel
 have OF5 : Own W5 W2.heap.size [.string f.name, .slice pa pl pc, .int .i64 rg, .int .i64 f.words, .slice ca f.code.length cc] := by rw [← hW5]; exact Own.new _ _ _
 have OM5 : Own W5 w.heap.size [.slice ta tl tc, .slice (some ⟨fb, fo, none⟩) fl fc] := by rw [← hW5]; exact OM2.alloc _
 have OA5 : Own W5 (w.heap.size + 1) [.slice none 0 0, .slice none 0 0] := by rw [← hW5]; exact OA2.alloc _
 have hz5 : W2.heap.size + 1 = W5.heap.size := by rw [← hW5]; simp
 have hz5' : W2.heap.size + 1 ≤ W5.heap.size := by omega
 clear hW5 hz5 OM2 OA2 hb2 m2' g0 g1 g2 g3 g4 sm;generalize hA0 : (Act.mk _ _ : Act) = a0;have e8 : a0.eval (.tmp 8) = .int .i64 f.code.length := by rw [← hA0]; rfl
 have hsz : a0.tmps.size = 143 := by rw [← hA0]; rfl
 refine region_frame (by kernel_rfl) (by kernel_rfl) (by kernel_rfl) (by rw [hsz]; kernel_rfl) [some 42, some 43, some 44, some 45, some 46, some 47, some 48, some 49, some 50, some 51, some 52, some 9, none] (by kernel_rfl) (by kernel_rfl) (fun L V W => L.size = 13 ∧ ∃ tg, RunF f.code.length W5 L V W tg) (fun V => ⟨by simp, _, RunF.start _ _ V (Below.refl _ _).drew⟩) ?_ ?_
 ·intro i o L V ev W ho hlt hne hd hc hcst hun hev hF;obtain ⟨hLs, tg, hF⟩ := hF;have e8' : ev (.tmp 8) = .int .i64 f.code.length := (hun 8 (noDst_spec (by kernel_rfl))).trans e8;have hi : i < 13 := by rw [← hLs]; exact hlt
  obtain rfl | rfl | rfl | rfl | rfl | rfl | rfl | rfl | rfl | rfl | rfl | rfl | rfl : i = 0 ∨ i = 1 ∨ i = 2 ∨ i = 3 ∨ i = 4 ∨ i = 5 ∨ i = 6 ∨ i = 7 ∨ i = 8 ∨ i = 9 ∨ i = 10 ∨ i = 11 ∨ i = 12 := by omega
  ·cases ho;have hl12 : ¬ L.getD 12 false = true := fun h => hne (hc 12 _ rfl h ⟨0, .phase⟩ (by simp) rfl);exact .inl ⟨_, W, by simp [execOp, e8', go_sem], by simpa using hLs, tg, hF.s0 hlt hl12⟩
  ·cases ho;have hl12 : ¬ L.getD 12 false = true := fun h => hne (hc 12 _ rfl h ⟨1, .phase⟩ (by simp) rfl);have d0 : L.getD 0 false = true := hd ⟨0, .data⟩ (by simp) rfl;have ed : ev (.tmp 42) = .int .i64 f.code.length := (hev 0 42 rfl d0).trans (hF.num 0 (by simp) d0);have nb4 : ¬ L.getD 4 false = true := fun h => hne (hc 4 _ rfl h ⟨1, .data⟩ (by simp) rfl);have nb9 : ¬ L.getD 9 false = true := fun h => nb4 (hc 9 _ rfl h ⟨4, .data⟩ (by simp) rfl);have nb10 : ¬ L.getD 10 false = true := fun h => nb9 (hc 10 _ rfl h ⟨9, .data⟩ (by simp) rfl);exact .inl ⟨_, _, by unfold execOp; simp only [GE, ed, Sem.run_bind, Sem.run_pure, Result.andThen_ok, hm34], by simpa using hLs, _, hF.s1 hlt hl12 nb9 nb10 nb4 hml⟩
  ·cases ho;have hl12 : ¬ L.getD 12 false = true := fun h => hne (hc 12 _ rfl h ⟨2, .phase⟩ (by simp) rfl);exact .inl ⟨_, W, by simp [execOp, e8', go_sem], by simpa using hLs, tg, hF.s2 hlt hl12⟩
  ·cases ho;have hl12 : ¬ L.getD 12 false = true := fun h => hne (hc 12 _ rfl h ⟨3, .phase⟩ (by simp) rfl);have d2 : L.getD 2 false = true := hd ⟨2, .data⟩ (by simp) rfl;have ed : ev (.tmp 44) = .int .i64 f.code.length := (hev 2 44 rfl d2).trans (hF.num 2 (by simp) d2);have nb4 : ¬ L.getD 4 false = true := fun h => hne (hc 4 _ rfl h ⟨3, .data⟩ (by simp) rfl);have nb9 : ¬ L.getD 9 false = true := fun h => nb4 (hc 9 _ rfl h ⟨4, .data⟩ (by simp) rfl);have nb10 : ¬ L.getD 10 false = true := fun h => nb9 (hc 10 _ rfl h ⟨9, .data⟩ (by simp) rfl);exact .inl ⟨_, _, by unfold execOp; simp only [GE, ed, Sem.run_bind, Sem.run_pure, Result.andThen_ok, hm35], by simpa using hLs, _, hF.s3 hlt hl12 nb9 nb10 nb4 hml⟩
  ·cases ho;have hl12 : ¬ L.getD 12 false = true := fun h => hne (hc 12 _ rfl h ⟨4, .phase⟩ (by simp) rfl);have d1 : L.getD 1 false = true := hd ⟨1, .data⟩ (by simp) rfl;have d3 : L.getD 3 false = true := hd ⟨3, .data⟩ (by simp) rfl;obtain ⟨b1, hv1, -, -⟩ := hF.r1 d1;have e1 : ev (.tmp 43) = .slice (some ⟨b1, 0, none⟩) f.code.length f.code.length := (hev 1 43 rfl d1).trans hv1;obtain ⟨b3, hv3, -, -⟩ := hF.r3 d3;have e3 : ev (.tmp 45) = .slice (some ⟨b3, 0, none⟩) f.code.length f.code.length := (hev 3 45 rfl d3).trans hv3;exact .inl ⟨.agg #[V 1, V 3], W, by rw [hv1, hv3]; simp [execOp, e1, e3, go_sem], by simpa using hLs, tg, hF.s4 hlt hl12 d1 d3⟩
  ·cases ho;have hl12 : ¬ L.getD 12 false = true := fun h => hne (hc 12 _ rfl h ⟨5, .phase⟩ (by simp) rfl);exact .inl ⟨_, W, by simp [execOp, e8', go_sem], by simpa using hLs, tg, hF.s5 hlt hl12⟩
  ·cases ho;have hl12 : ¬ L.getD 12 false = true := fun h => hne (hc 12 _ rfl h ⟨6, .phase⟩ (by simp) rfl);have d5 : L.getD 5 false = true := hd ⟨5, .data⟩ (by simp) rfl;have ed : ev (.tmp 47) = .int .i64 f.code.length := (hev 5 47 rfl d5).trans (hF.num 5 (by simp) d5);have nb9 : ¬ L.getD 9 false = true := fun h => hne (hc 9 _ rfl h ⟨6, .data⟩ (by simp) rfl);have nb10 : ¬ L.getD 10 false = true := fun h => nb9 (hc 10 _ rfl h ⟨9, .data⟩ (by simp) rfl);exact .inl ⟨_, _, by unfold execOp; simp only [GE, ed, Sem.run_bind, Sem.run_pure, Result.andThen_ok, hm69], by simpa using hLs, _, hF.s6 hlt hl12 nb9 nb10 hml⟩
  ·cases ho;have hl12 : ¬ L.getD 12 false = true := fun h => hne (hc 12 _ rfl h ⟨7, .phase⟩ (by simp) rfl);exact .inl ⟨_, W, by simp [execOp, e8', go_sem], by simpa using hLs, tg, hF.s7 hlt hl12⟩
  ·cases ho;have hl12 : ¬ L.getD 12 false = true := fun h => hne (hc 12 _ rfl h ⟨8, .phase⟩ (by simp) rfl);have d7 : L.getD 7 false = true := hd ⟨7, .data⟩ (by simp) rfl;have ed : ev (.tmp 49) = .int .i64 f.code.length := (hev 7 49 rfl d7).trans (hF.num 7 (by simp) d7);have nb9 : ¬ L.getD 9 false = true := fun h => hne (hc 9 _ rfl h ⟨8, .data⟩ (by simp) rfl);have nb10 : ¬ L.getD 10 false = true := fun h => nb9 (hc 10 _ rfl h ⟨9, .data⟩ (by simp) rfl);exact .inl ⟨_, _, by unfold execOp; simp only [GE, ed, Sem.run_bind, Sem.run_pure, Result.andThen_ok, hm47], by simpa using hLs, _, hF.s8 hlt hl12 nb9 nb10 hml⟩
  ·cases ho;have hl12 : ¬ L.getD 12 false = true := fun h => hne (hc 12 _ rfl h ⟨9, .phase⟩ (by simp) rfl);have d4 : L.getD 4 false = true := hd ⟨4, .data⟩ (by simp) rfl;have d6 : L.getD 6 false = true := hd ⟨6, .data⟩ (by simp) rfl;have d8 : L.getD 8 false = true := hd ⟨8, .data⟩ (by simp) rfl;have d1 : L.getD 1 false = true := hc 4 _ rfl d4 ⟨1, .data⟩ (by simp) rfl;have d3 : L.getD 3 false = true := hc 4 _ rfl d4 ⟨3, .data⟩ (by simp) rfl;obtain ⟨b1, hv1, -, -⟩ := hF.r1 d1;have e1 : ev (.tmp 43) = .slice (some ⟨b1, 0, none⟩) f.code.length f.code.length := (hev 1 43 rfl d1).trans hv1;obtain ⟨b3, hv3, -, -⟩ := hF.r3 d3;have e3 : ev (.tmp 45) = .slice (some ⟨b3, 0, none⟩) f.code.length f.code.length := (hev 3 45 rfl d3).trans hv3;obtain ⟨b6, hv6, -, -⟩ := hF.r6 d6;have e6 : ev (.tmp 48) = .slice (some ⟨b6, 0, none⟩) f.code.length f.code.length := (hev 6 48 rfl d6).trans hv6;obtain ⟨b8, hv8, -, -⟩ := hF.r8 d8;have e8 : ev (.tmp 50) = .slice (some ⟨b8, 0, none⟩) f.code.length f.code.length := (hev 8 50 rfl d8).trans hv8;have e4 : ev (.tmp 46) = .agg #[.slice (some ⟨b1, 0, none⟩) f.code.length f.code.length, .slice (some ⟨b3, 0, none⟩) f.code.length f.code.length] := by rw [hev 4 46 rfl d4, hF.b4 d4, hv1, hv3]
   exact .inl ⟨.agg #[V 1, V 3, V 6, V 8], W, by rw [hv1, hv3, hv6, hv8]; simp [execOp, e4, e6, e8, go_sem], by simpa using hLs, tg, hF.s9 hlt hl12⟩
  ·cases ho;have hl12 : ¬ L.getD 12 false = true := fun h => hne (hc 12 _ rfl h ⟨10, .phase⟩ (by simp) rfl);have d9 : L.getD 9 false = true := hd ⟨9, .data⟩ (by simp) rfl;have d4 : L.getD 4 false = true := hc 9 _ rfl d9 ⟨4, .data⟩ (by simp) rfl;have d6 : L.getD 6 false = true := hc 9 _ rfl d9 ⟨6, .data⟩ (by simp) rfl;have d8 : L.getD 8 false = true := hc 9 _ rfl d9 ⟨8, .data⟩ (by simp) rfl;have d1 : L.getD 1 false = true := hc 4 _ rfl d4 ⟨1, .data⟩ (by simp) rfl;have d3 : L.getD 3 false = true := hc 4 _ rfl d4 ⟨3, .data⟩ (by simp) rfl;obtain ⟨b1, hv1, -, -⟩ := hF.r1 d1;have e1 : ev (.tmp 43) = .slice (some ⟨b1, 0, none⟩) f.code.length f.code.length := (hev 1 43 rfl d1).trans hv1;obtain ⟨b3, hv3, -, -⟩ := hF.r3 d3;have e3 : ev (.tmp 45) = .slice (some ⟨b3, 0, none⟩) f.code.length f.code.length := (hev 3 45 rfl d3).trans hv3;obtain ⟨b6, hv6, -, -⟩ := hF.r6 d6;have e6 : ev (.tmp 48) = .slice (some ⟨b6, 0, none⟩) f.code.length f.code.length := (hev 6 48 rfl d6).trans hv6;obtain ⟨b8, hv8, -, -⟩ := hF.r8 d8;have e8 : ev (.tmp 50) = .slice (some ⟨b8, 0, none⟩) f.code.length f.code.length := (hev 8 50 rfl d8).trans hv8;have e9 : ev (.tmp 51) = .agg #[.slice (some ⟨b1, 0, none⟩) f.code.length f.code.length, .slice (some ⟨b3, 0, none⟩) f.code.length f.code.length, .slice (some ⟨b6, 0, none⟩) f.code.length f.code.length, .slice (some ⟨b8, 0, none⟩) f.code.length f.code.length] := by rw [hev 9 51 rfl d9, hF.b9 d9, hv1, hv3, hv6, hv8]
   refine .inl ⟨_, _, ?_, by simpa using hLs, _, hF.s10 hlt hl12⟩;rw [hv1, hv3, hv6, hv8];simp [execOp, e9, go_sem]
  ·cases ho;have hl12 : ¬ L.getD 12 false = true := fun h => hne (hc 12 _ rfl h ⟨11, .phase⟩ (by simp) rfl);refine .inl ⟨_, _, ?_, by simpa using hLs, _, hF.s11 hlt hl12⟩;simp [execOp, go_sem]
  ·cases ho;have d11 : L.getD 11 false = true := hd ⟨11, .data⟩ (by simp) rfl;have d10 : L.getD 10 false = true := hd ⟨10, .data⟩ (by simp) rfl;obtain ⟨p, hp, -, hown⟩ := hF.pt d11;rw [if_neg hne] at hown;obtain ⟨k, hk, -, -⟩ := hF.st d10;have o9 := own1 hown;have e11 : ev (.tmp 9) = .pointer (some ⟨p, 0, none⟩) := (hev 11 9 rfl d11).trans hp;have e10 : ev (.tmp 52) = .pointer (some ⟨k, 0, none⟩) := (hev 10 52 rfl d10).trans hk;refine .inr ⟨_, ?_, by simpa using hLs, _, hF.s12 hlt hne d11 hp undef⟩;rw [hk];simp [execOp, e11, e10, go_sem, o9.2.1, o9.2.2]
 ·rintro L V W hL ⟨hLs, tg, hF⟩;have l : ∀ i, i < 13 → L.getD i false = true := hL;obtain ⟨b1, v1, r1, t1⟩ := hF.r1 (l 1 (by decide));obtain ⟨b3, v3, r3, t3⟩ := hF.r3 (l 3 (by decide));obtain ⟨b6, v6, r6, t6⟩ := hF.r6 (l 6 (by decide));obtain ⟨b8, v8, r8, t8⟩ := hF.r8 (l 8 (by decide));obtain ⟨k, v10, hst, tk⟩ := hF.st (l 10 (by decide));obtain ⟨p, v11, tp, hpt⟩ := hF.pt (l 11 (by decide));rw [if_pos (l 12 (by decide)), v10] at hpt;rw [v1, v3, v6, v8] at hst;rw [v1] at r1; rw [v3] at r3; rw [v6] at r6; rw [v8] at r8;have w0 := hF.num 0 (by simp) (l 0 (by decide));have w2 := hF.num 2 (by simp) (l 2 (by decide));have w5 := hF.num 5 (by simp) (l 5 (by decide));have w7 := hF.num 7 (by simp) (l 7 (by decide));have w4 := hF.b4 (l 4 (by decide));have w9 := hF.b9 (l 9 (by decide));have hbel := hF.bel;have hfr := hF.fr;have hlo := hF.lo;rw [v1, v3] at w4;rw [v1, v3, v6, v8] at w9;simp only [putsL, Nat.zero_add, Nat.reduceAdd];rw [v1, w0, w2, v3, w4, w5, v6, w7, v8, w9, v10, v11];subst hA0
  try clear Ee
  simp only [GE, Act.put, List.setIfInBounds_toArray, List.set_cons_zero, List.set_cons_succ];have hpk : k ≠ p := fun e => by rw [e] at tk; omega
  have hp1 : b1 ≠ p := fun e => by rw [e] at t1; omega
  have hp3 : b3 ≠ p := fun e => by rw [e] at t3; omega
  have hp6 : b6 ≠ p := fun e => by rw [e] at t6; omega
  have hp8 : b8 ≠ p := fun e => by rw [e] at t8; omega
  have hpl2 := hpt.1;have htg0 : ∀ x, x < W5.heap.size → updF tg p 0 x = 0 := fun x hx => by
   by_cases e : x = p
   ·subst e; exact updF_self _ _ _
   ·rw [updF_ne _ _ e]; exact Classical.byContradiction fun h => by have := hlo x h; omega
  have HI : Hid (MInit W5.heap.size W { k := k, ib := b1, ic := f.code.length, cb := b3, cc := f.code.length, mb := b6, mc := f.code.length, jb := b8, jc := f.code.length, iv := fun _ => none, cv := fun _ => (0, 0), tg := updF tg p 0 } f.code.length rg 0) := Lib.hid (by
   refine ⟨hst, r1, ?_, r6, r8, fun v hv => absurd hv (Nat.not_lt_zero v), by dsimp only; rw [updF_ne _ _ hpk]; exact tk, by dsimp only; rw [updF_ne _ _ hp1]; exact t1, by dsimp only; rw [updF_ne _ _ hp3]; exact t3, by dsimp only; rw [updF_ne _ _ hp6]; exact t6, by dsimp only; rw [updF_ne _ _ hp8]; exact t8, fun b hb => ?_, fun b hb => ?_, Nat.zero_le _⟩
   ·have e : (List.range f.code.length).map (fun v => if v < 0 then cvVal rg ((0 : Nat), (0 : Nat)) else Value.slice none 0 0) = List.replicate f.code.length (.slice none 0 0) := by
     simp [List.eq_replicate_iff]
    dsimp only;rw [e]; exact r3
   ·dsimp only;rw [updF_ne _ _ (by omega)]; exact hfr b hb
   ·dsimp only at hb;by_cases e : b = p
    ·subst e; rw [updF_self] at hb; omega
    ·rw [updF_ne _ _ e] at hb; exact hlo b hb)
  have HB : Hid (Boxes W (updF tg p 0) w.heap.size (w.heap.size + 1) W2.heap.size p k [.slice ta tl tc, .slice (some ⟨fb, fo, none⟩) fl fc] [.string f.name, .slice pa pl pc, .int .i64 rg, .int .i64 f.words, .slice ca f.code.length cc]) := Lib.hid ⟨OM5.below hbel, OA5.below hbel, OF5.below hbel, hpt, htg0 _ (by omega), htg0 _ (by omega), htg0 _ (by omega), updF_self _ _ _⟩;have hbW : Below w.heap.size w W := hb5.trans (hbel.mono hb5.size);have hb5w := hb5;have hzW := hbel.size;have HBE := Lib.hid hbel;clear r1 r3 r6 r8 t1 t3 t6 t8 tk tp hst hpt v1 v3 v6 v8 v10 v11 w0 w2 w4 w5 w7 w9 hbel hfr hlo hF l hL hLs hpk hp1 hp3 hp6 hp8 htg0 OM5 OA5 OF5 hb5 hm34 hm35 hm69 hm47 hmc hml e8 hsz;have hm47r := run_make_row' (P := Tryd.prog) 47 3 (.int .i64 0) 8 Tryd.underlying47 Tryd.infoI rfl .i64 .i64 rg (by omega) (by omega);rw [madeOne] at hm47r;go_wp2;go_loopw [54] (fun i wx => ∃ (j : Nat) (cv : Nat → Nat × Nat) (tg' : Nat → Nat), j ≤ f.code.length ∧ i = .int .i64 j ∧ Hid (MInit W5.heap.size wx { k := k, ib := b1, ic := f.code.length, cb := b3, cc := f.code.length, mb := b6, mc := f.code.length, jb := b8, jc := f.code.length, iv := fun _ => none, cv := cv, tg := tg' } f.code.length rg j) ∧ Hid (Boxes wx tg' w.heap.size (w.heap.size + 1) W2.heap.size p k [.slice ta tl tc, .slice (some ⟨fb, fo, none⟩) fl fc] [.string f.name, .slice pa pl pc, .int .i64 rg, .int .i64 f.words, .slice ca f.code.length cc]) ∧ Below W5.heap.size W5 wx) (fun i _ => f.code.length - (intOf i).toNat)
  case atStart => exact ⟨0, _, _, Nat.zero_le _, rfl, HI, HB, HBE.out⟩
  case round =>
   clear HI HB;obtain ⟨j, cv, tg', hj, rfl, HI, HB, hbx⟩ := hrel;have hzx := hbx.size;have k4 := own4 HI.out.st;have f5 := own5 HB.out.cf;have p1 := own1 HB.out.cp;by_cases hjt : j < f.code.length
   ·have d3 : (j : Int) < (f.code.length : Int) := by omega
    have hwj : IntKind.i64.wrap ((j : Int) + 1) = (j : Int) + 1 := IntWalk.i64_in _ (by omega);have c0 : wr.cell? ⟨b3, j, none⟩ = some (.slice none 0 0) := row_cell HI.out.rc (by simp [hjt]);have z0 : wr.frozen? ⟨b3, j, none⟩ = false := HI.out.rc.frozenAt _;have hb3L := row_ltB HI.out.rc;have htc : tg' b3 = 3 := HI.out.tc;have htk : tg' k = 1 := HI.out.tk;have htp : tg' p = 0 := HB.out.tp;have htf : tg' W2.heap.size = 0 := HB.out.tf;have HSS : Hid (∀ w', Chg (· = b3) wr w' → w'.cell? ⟨p, 0, none⟩ = some (.pointer (some ⟨k, 0, none⟩)) ∧ w'.cell? ⟨k, 1, none⟩ = some (.slice (some ⟨b3, 0, none⟩) f.code.length f.code.length) ∧ w'.cell? ⟨W2.heap.size, 2, none⟩ = some (.int .i64 rg)) := Lib.hid (fun w' hw => by
     have k4 := own4 (hw.own HI.out.st (fun e => by have e' : k = b3 := e; rw [e'] at htk; omega));have f5 := own5 (hw.own HB.out.cf (fun e => by rw [e] at htf; omega));have p1 := own1 (hw.own HB.out.cp (fun e => by rw [e] at htp; omega));exact ⟨p1.2.1, k4.2.2.1, f5.2.2.2.1⟩)
    go_upto_region 12 with (fail)
    clear k4 f5 p1;generalize hA0 : (Act.mk _ _ : Act) = a0;have Ee : a0.eval (.tmp 9) = .pointer (some ⟨p, 0, none⟩) ∧ a0.eval (.tmp 10) = .int .i64 j ∧ a0.eval (.tmp 7) = .pointer (some ⟨W2.heap.size, 0, none⟩) ∧ a0.tmps.size = 143 := by rw [← hA0]; exact ⟨rfl, rfl, rfl, rfl⟩
    refine region_held_plain (fun w' => Chg (· = b3) wr w') (by kernel_rfl) ((Chg.refl _ wr).drew) ?_;intro K0 hK0 hHeld
    try dsimp only at hHeld
    refine wtk 0 rfl ?_; try simp only [GE]
    refine wtk 1 rfl ?_; try simp only [GE]
    refine wtk 2 rfl ?_; try simp only [GE]
    refine wtk 3 rfl ?_; try simp only [GE]
    refine wtk 4 rfl ?_; try simp only [GE]
    refine wtk 5 rfl ?_; try simp only [GE]
    refine wtk 6 rfl ?_; try simp only [GE]
    refine wtk 7 rfl ?_; try simp only [GE]
    generalize hA1 : (Act.put _ _ _ : Act) = a1;replace Ee : a1.eval (.tmp 61) = .slice (some ⟨b3, 0, none⟩) f.code.length f.code.length ∧ a1.eval (.tmp 62) = .int .i64 j ∧ a1.eval (.tmp 64) = .int .i64 rg ∧ a1.tmps.size = 143 := ee1;refine readyH1 8 ?_ (by kernel_rfl) ?_ ?_;rotate_left
    ·exact rfl
    intro K hK;simp only [GE];refine step_val rfl (.slice (some ⟨wr.heap.size, 0, none⟩) rg rg) _ (by unfold execOp; simp only [GE, Ee, Sem.run_bind, Sem.run_pure, Result.andThen_ok, hm47r]; rfl) ?_;refine hK.out _ _ (chq) fun hHeld => ?_; clear hK K; try simp only [GE]
    generalize hA2 : (Act.put _ _ _ : Act) = a2;replace Ee : a2.eval (.tmp 61) = .slice (some ⟨b3, 0, none⟩) f.code.length f.code.length ∧ a2.eval (.tmp 62) = .int .i64 j ∧ a2.eval (.tmp 65) = .slice (some ⟨wr.heap.size, 0, none⟩) rg rg ∧ a2.tmps.size = 143 := ee2;refine wtk 9 rfl ?_; try simp only [GE]
    generalize hA3 : (Act.put _ _ _ : Act) = a3;replace Ee : a3.eval (.tmp 66) = .pointer (some ⟨b3, j, none⟩) ∧ a3.eval (.tmp 65) = .slice (some ⟨wr.heap.size, 0, none⟩) rg rg ∧ a3.tmps.size = 143 := ee3;refine readyH1 10 ?_ (by kernel_rfl) ?_ ?_;rotate_left
    ·exact rfl
    intro K hK;simp only [GE];refine sts ?_;refine hK.out _ _ (chq) fun hHeld => ?_; clear hK K; try simp only [GE]
    refine anyH_done (by kernel_rfl) ?_;refine hK0.out _ _ ?_;subst hA3;subst hA2;subst hA1;subst hA0;clear Ee;simp only [GE, Act.put, List.setIfInBounds_toArray, List.set_cons_zero, List.set_cons_succ];generalize hW9' : (World.drew _ : World) = w9;have hW9 : (wr.drew.alloc (.cells (List.replicate rg (Value.int .i64 0)).toArray 3)).setCell ⟨b3, j, none⟩ (.slice (some ⟨wr.heap.size, 0, none⟩) rg rg) = w9 := by
     rw [← hW9']
     go_simp
    have hba : Below wr.heap.size wr (wr.drew.alloc (.cells (List.replicate rg (Value.int .i64 0)).toArray 3)) := (Below.refl _ wr).drew.alloc (Nat.le_refl _) _;have hrow : (wr.drew.alloc (.cells (List.replicate rg (Value.int .i64 0)).toArray 3)).ownsRow 0 3 1 (.slice (some ⟨wr.heap.size, 0, none⟩) rg rg) rg (Nums (List.replicate rg 0)) := by
     have := World.ownsRow_lit wr.drew (base := 0) (e := 3) (size := 1) (List.replicate rg (Value.int .i64 0)).toArray rg (Nat.zero_le _) (by unfold maxLen; omega) (by simp);simpa [Nums] using this
    have hM9 := (HI.out.below hba).row hjt hrow (HI.out.fr _ (Nat.le_refl _)) hzx;have hB9 := HB.out.tag1 ((HB.out.below hba).keep (chgSet _ b3 j (.slice (some ⟨wr.heap.size, 0, none⟩) rg rg)) (fun x e => by have e2 : x = b3 := e; rw [e2, htc]; decide)) (Nat.le_refl wr.heap.size) (7 + 2 * j);have hbx9 : Below W5.heap.size W5 w9 := by rw [← hW9]; exact (hbx.trans (hba.mono hzx)).setCell (p := ⟨b3, j, none⟩) (HI.out.lo b3 (by show tg' b3 ≠ 0; rw [htc]; decide)) _
    dsimp only at hM9;rw [hW9] at hM9 hB9;have HM9 := Lib.hid hM9; have HB9 := Lib.hid hB9;clear hM9 hB9 hW9 hW9' hrow;go_wp2;refine ⟨⟨j + 1, _, _, by omega, by simp, HM9, HB9, hbx9⟩, ?_⟩;go_light; first | omega | (simp only [intOf]; omega)
   ·obtain rfl : j = f.code.length := by omega
    have d3 : ¬ (f.code.length : Int) < (f.code.length : Int) := by omega
    have HBt := Lib.hid HI.out.done;have htb1 : tg' b1 = 2 := HI.out.ti;have htk : tg' k = 1 := HI.out.tk;have htp : tg' p = 0 := HB.out.tp;have htf : tg' W2.heap.size = 0 := HB.out.tf;have c0 : wr.cell? ⟨b1, 0, none⟩ = some (.slice none 0 0) := row_cell HI.out.ri (by simp [hn0]);have z0 : wr.frozen? ⟨b1, 0, none⟩ = false := HI.out.ri.frozenAt _;have hb1L := row_ltB HI.out.ri;have hb1W : W5.heap.size ≤ b1 := HI.out.lo b1 (by show tg' b1 ≠ 0; rw [htb1]; decide);have hbwr : Below w.heap.size w wr := hb5w.trans (hbx.mono (by omega));have hsp := HFO.out.2.1;have hsp2 : pl = pl ∧ ∀ i, i < pl → In64 (f.params.getD i default).lo ∧ In64 (f.params.getD i default).hi := ⟨rfl, fun i hi => by obtain ⟨_, _, _, _, _, hc⟩ := hsp; exact (hc i hi).2.2⟩
    have hplen : f.params.length = pl := hsp.1;have hrgp : pl + (rg - pl) = rg := by omega
    have hpl64 : pl ≤ 64 := by omega
    have hws : IntKind.i64.wrap ((rg : Int) - (pl : Int)) = ((rg - pl : Nat) : Int) := by rw [IntWalk.i64_in _ (by omega)]; omega
    have hws2 : wrap64 ((rg : Int) - (pl : Int)) = ((rg - pl : Nat) : Int) := by rw [wrap64_eq]; exact hws
    have hbeg : f.params ++ List.replicate (rg - pl) (⟨0, 0⟩ : PSpan) = beginP f := by unfold beginP; rw [HRG.out, hplen]; simp
    have HSR := Lib.hid (spans_src hsp);have HCl : Hid (∀ w', Chg (· = b1) wr w' → Calls Tryd.prog 12 #[.slice pa pl pc] w' fun e w2 => ∃ v, e = .returned v ∧ CloneR pl f.params w' v w2) := Lib.hid (fun w' hw => clone_is pa pl pc f.params w' hplen (fun h0 => by
     obtain ⟨b, o, h1, h2, h3⟩ := HSR.out h0;have hbl : b < w.heap.size := by omega
     have hz := hbwr.size;have hz2 := hw.size;refine ⟨b, o, h1, by omega, fun j u hu => ?_⟩;exact (hw.cellAt (o + j) (b := b) (by omega) (by show ¬ (b = b1); omega)).trans ((hbwr.cell (p := ⟨b, o + j, none⟩) hbl).trans (h3 j u hu))) hpl64)
    have hcf : ∀ (args : Array Value) (w : World), (callFunc 12 args).run Tryd.prog w = .ok (.enter 12 args) w := fun _ _ => rfl;have hcf2 : ∀ (args : Array Value) (w : World), (callFunc 11 args).run Tryd.prog w = .ok (.enter 11 args) w := fun _ _ => rfl;have HSS : Hid (∀ w', Chg (· = b1) wr w' → w'.cell? ⟨p, 0, none⟩ = some (.pointer (some ⟨k, 0, none⟩)) ∧ w'.cell? ⟨k, 0, none⟩ = some (.slice (some ⟨b1, 0, none⟩) f.code.length f.code.length) ∧ w'.cell? ⟨W2.heap.size, 1, none⟩ = some (.slice pa pl pc) ∧ w'.cell? ⟨W2.heap.size, 2, none⟩ = some (.int .i64 rg)) := Lib.hid (fun w' hw => by
     have k4 := own4 (hw.own HI.out.st (fun e => by have e' : k = b1 := e; rw [e'] at htk; omega));have f5 := own5 (hw.own HB.out.cf (fun e => by rw [e] at htf; omega));have p1 := own1 (hw.own HB.out.cp (fun e => by rw [e] at htp; omega));exact ⟨p1.2.1, k4.2.1, f5.2.2.1, f5.2.2.2.1⟩)
    go_upto_region 14 with (fail)
    clear k4 f5 p1;generalize hA0 : (Act.mk _ _ : Act) = a0;have Ee : a0.eval (.tmp 9) = .pointer (some ⟨p, 0, none⟩) ∧ a0.eval (.tmp 7) = .pointer (some ⟨W2.heap.size, 0, none⟩) ∧ a0.tmps.size = 143 := by rw [← hA0]; exact ⟨rfl, rfl, rfl⟩
    refine region_held_plain (fun w' => Chg (· = b1) wr w') (by kernel_rfl) ((Chg.refl _ wr).drew) ?_;intro K0 hK0 hHeld
    try dsimp only at hHeld
    refine wtk 0 rfl ?_; try simp only [GE]
    refine wtk 1 rfl ?_; try simp only [GE]
    refine wtk 2 rfl ?_; try simp only [GE]
    refine wtk 3 rfl ?_; try simp only [GE]
    refine wtk 4 rfl ?_; try simp only [GE]
    refine wtk 5 rfl ?_; try simp only [GE]
    refine wtk 6 rfl ?_; try simp only [GE]
    refine wtk 9 rfl ?_; try simp only [GE]
    refine wtk 10 rfl ?_; try simp only [GE]
    refine wtk 11 rfl ?_; try simp only [GE]
    refine wtk 12 rfl ?_; try simp only [GE]
    refine wtk 13 rfl ?_; try simp only [GE]
    refine wtk 14 rfl ?_; try simp only [GE]
    generalize hA1 : (Act.put _ _ _ : Act) = a1;replace Ee : a1.eval (.tmp 72) = .slice (some ⟨b1, 0, none⟩) f.code.length f.code.length ∧ a1.eval (.tmp 82) = .int .i64 ((rg - pl : Nat) : Int) ∧ a1.eval (.tmp 74) = .slice pa pl pc ∧ a1.tmps.size = 143 := ee1;refine readyH1 7 ?_ (by kernel_rfl) ?_ ?_;rotate_left
    ·exact rfl
    intro K hK;refine step_callF rfl 12 [.tmp 74] #[40] rfl hcf [.slice pa pl pc] (by simp only [GE, MX, EX, Ee, reduceIte, Nat.reduceEqDiff, Nat.reduceLT, Nat.reduceBEq]) _ (HCl.out _ hHeld) ?_;rintro v wM ⟨va, vc, rfl, hvc1, hvc2, hvn, hvr, hbM⟩; have hwM : Chg (· = b1) wr wM := hHeld.trans (Chg.of hbM); have hzM := hwM.size;refine hK.out _ _ (hwM) fun hHeld => ?_; clear hK K; try simp only [GE]
    generalize hA2 : (Act.put _ _ _ : Act) = a2;replace Ee : a2.eval (.tmp 72) = .slice (some ⟨b1, 0, none⟩) f.code.length f.code.length ∧ a2.eval (.tmp 82) = .int .i64 ((rg - pl : Nat) : Int) ∧ a2.eval (.tmp 75) = .slice va pl vc ∧ a2.tmps.size = 143 := ee2;refine readyH1 8 ?_ (by kernel_rfl) ?_ ?_;rotate_left
    ·exact rfl
    intro K hK;refine step_callF rfl 11 [.tmp 75] #[40] rfl hcf2 [.slice va pl vc] (by simp only [GE, MX, EX, Ee, reduceIte, Nat.reduceEqDiff, Nat.reduceLT, Nat.reduceBEq]) _ (clip_is va pl vc _ hvc1 hvc2 hvn) ?_;rintro v wN ⟨rfl, hwN⟩; rw [hwN]; clear hwN;refine hK.out _ _ (hwM) fun hHeld => ?_; clear hK K; try simp only [GE]
    generalize hA3 : (Act.put _ _ _ : Act) = a3;replace Ee : a3.eval (.tmp 72) = .slice (some ⟨b1, 0, none⟩) f.code.length f.code.length ∧ a3.eval (.tmp 82) = .int .i64 ((rg - pl : Nat) : Int) ∧ a3.eval (.tmp 76) = .slice va pl pl ∧ a3.tmps.size = 143 := ee3;have ⟨_, e3_82, e3_76, _⟩ := Ee;refine readyH1 15 ?_ (by kernel_rfl) ?_ ?_;rotate_left
    ·exact rfl
    intro K hK;obtain ⟨g, cap, wA, hrun, hrA, hbA, hgA⟩ := append_zeros2 wM 40 va pl (rg - pl) f.params hplen (hvr.imp id (fun ⟨b, h1, _, h2⟩ => ⟨b, h1, h2⟩)) (by omega) (by omega);rw [hrgp] at hrun hrA;have hwA : Chg (· = b1) wr wA := hwM.trans (Chg.of hbA);have hbwA : Below wr.heap.size wr wA := ((Below.refl _ wr).drew.trans (hbM.mono (Nat.le_refl _))).trans (hbA.mono hzM);have c0A := (hbwA.cell (p := ⟨b1, 0, none⟩) hb1L).trans c0;have z0A := (hbwA.frozen (p := ⟨b1, 0, none⟩) hb1L).trans z0;refine step_apprun rfl (.tmp 76) (.tmp 82) 40 3 rfl _ _ e3_76 e3_82 _ _ hrun ?_;refine hK.out _ _ (hwA) fun hHeld => ?_; clear hK K; try simp only [GE]
    generalize hA4 : (Act.put _ _ _ : Act) = a4;replace Ee : a4.eval (.tmp 72) = .slice (some ⟨b1, 0, none⟩) f.code.length f.code.length ∧ a4.eval (.tmp 83) = .slice (some ⟨g, 0, none⟩) rg cap ∧ a4.tmps.size = 143 := ee4;refine wtk 16 rfl ?_; try simp only [GE]
    generalize hA5 : (Act.put _ _ _ : Act) = a5;replace Ee : a5.eval (.tmp 84) = .pointer (some ⟨b1, 0, none⟩) ∧ a5.eval (.tmp 83) = .slice (some ⟨g, 0, none⟩) rg cap ∧ a5.tmps.size = 143 := ee5;refine readyH1 17 ?_ (by kernel_rfl) ?_ ?_;rotate_left
    ·exact rfl
    intro K hK;simp only [GE];refine sts ?_;refine hK.out _ _ (chq) fun hHeld => ?_; clear hK K; try simp only [GE]
    refine anyH_done (by kernel_rfl) ?_;refine hK0.out _ _ ?_;subst hA5;subst hA4;subst hA3;subst hA2;subst hA1;subst hA0;clear Ee e3_82 e3_76;simp only [GE, Act.put, List.setIfInBounds_toArray, List.set_cons_zero, List.set_cons_succ];generalize hW9 : (World.setCell _ _ _ : World) = w9;have hgl : wr.heap.size ≤ g := by
     rcases hgA with h | h
     ·omega
     ·rcases hvr with ⟨h2, _⟩ | ⟨b, h2, h3, _⟩
      ·rw [h2] at h; cases h
      ·rw [h2] at h; cases h; exact h3
    rw [hbeg] at hrA;have htg : tg' g = 0 := HI.out.fr g hgl;have hB9 := (HBt.out.below hbwA).setI hn0 hrA htg (by omega);have hX9 := HB.out.tag1 ((HB.out.below hbwA).keep (chgSet wA b1 0 (.slice (some ⟨g, 0, none⟩) rg cap)) (fun x e => by have e2 : x = b1 := e; rw [e2, htb1]; decide)) hgl (6 + 2 * 0);dsimp only at hB9;rw [hW9] at hB9 hX9;have hbx9 : Below W5.heap.size W5 w9 := by rw [← hW9]; exact (hbx.trans (hbwA.mono hzx)).setCell (p := ⟨b1, 0, none⟩) hb1W _
    have m9 := (hB9.rd hn0).2.2.1;have z9 := (hB9.fz 0).2.1;have k4 := own4 hB9.st;have p1 := own1 hX9.cp;dsimp only at m9 z9 k4;have HB9 := Lib.hid hB9; have HX9 := Lib.hid hX9;clear hB9 hX9 hW9 hrA hbA hgA hrun hbM hvr hvn hvc1 hvc2 hwM hwA hbwA hbeg hws hws2 HCl HSS HSR HBt HI HB c0 z0 c0A z0A hcf hcf2 hsp hb1L;go_upto_region 16 with (fail)
    generalize hWS : (World.setCell _ _ _ : World) = wS;have hBS := HB9.out.setM 0 true;have htb6 : updF tg' g (6 + 2 * 0) b6 = 4 := HB9.out.tm;have hXS := HX9.out.keep (chgSet w9 b6 0 (.bool true)) (fun x e => by have e2 : x = b6 := e; rw [e2, htb6]; decide);dsimp only at hBS;rw [hWS] at hBS hXS;have est := start_is f HRG.out (rfl : f.code.length = f.code.length);have hBS2 : BAt W5.heap.size wS { k := k, ib := b1, ic := f.code.length, cb := b3, cc := f.code.length, mb := b6, mc := f.code.length, jb := b8, jc := f.code.length, iv := updF (fun _ => none) 0 (some (g, cap)), cv := cv, tg := updF tg' g (6 + 2 * 0) } f.code.length rg (startS f) := by rw [est]; exact hBS
    have hbxS : Below W5.heap.size W5 wS := by rw [← hWS]; exact hbx9.setCell (p := ⟨b6, 0, none⟩) (HB9.out.lo b6 (by show updF tg' g (6 + 2 * 0) b6 ≠ 0; rw [htb6]; decide)) _
    have p1 := own1 hXS.cp;have HBS := Lib.hid hBS2; have HXS := Lib.hid hXS;clear hBS hBS2 hXS hWS est k4 m9 z9 HB9 HX9;go_wp2;go_step3;go_wp2_with (first | (go_at_call 19; refine (rounds_any k _).mono ?_; rintro e wT ⟨rfl, rfl⟩) | fail)
    generalize hWT : World.alloc _ _ = wT;have hbST : Below wS.heap.size wS wT := by rw [← hWT]; exact (Below.refl _ _).alloc (Nat.le_refl _) _
    have hzT : wT.heap.size = wS.heap.size + 1 := by rw [← hWT]; simp
    have OXT : Own wT wS.heap.size [.pointer (some ⟨k, 0, none⟩)] := by rw [← hWT]; exact Own.new _ _ _
    have hzS := hbxS.size;have hso := start_ok HRG.out hrg0 (rfl : f.code.length = f.code.length) hn0 HFF.out.np (fun i hi => ⟨(hsp2.2 i (by omega)).1, (hsp2.2 i (by omega)).2, by
     have h9 := params_fine HE.out hfn (i := i) (by rw [HFE.out]; exact hi);rw [HFE.out] at h9;exact h9⟩)
    obtain ⟨iv0, hiv0⟩ : ∃ iv0 : Nat → Option (Nat × Nat), updF (fun _ => none) 0 (some (g, cap)) = iv0 := ⟨_, rfl⟩
    obtain ⟨tg0, htg0⟩ : ∃ tg0 : Nat → Nat, updF tg' g (6 + 2 * 0) = tg0 := ⟨_, rfl⟩
    rw [hiv0, htg0] at HBS;rw [htg0] at HXS;obtain ⟨A, hA⟩ : ∃ A : BAd, { k := k, ib := b1, ic := f.code.length, cb := b3, cc := f.code.length, mb := b6, mc := f.code.length, jb := b8, jc := f.code.length, iv := iv0, cv := cv, tg := tg0 } = A := ⟨_, rfl⟩
    have hAB : ∀ iv tg, { A with iv := iv, tg := tg } = ({ k := k, ib := b1, ic := f.code.length, cb := b3, cc := f.code.length, mb := b6, mc := f.code.length, jb := b8, jc := f.code.length, iv := iv, cv := cv, tg := tg } : BAd) := fun iv tg => by rw [← hA]
    have hAk : A.k = k := by rw [← hA]
    have HR0 : Hid (RI W5.heap.size A f.code.length rg wS.heap.size wT.heap.size w.heap.size (w.heap.size + 1) W2.heap.size p [.slice ta tl tc, .slice (some ⟨fb, fo, none⟩) fl fc] [.string f.name, .slice pa pl pc, .int .i64 rg, .int .i64 f.words, .slice ca f.code.length cc] w (startS f) wT iv0 tg0) := Lib.hid (by
     have hb0 := HBS.out.below hbST;refine ⟨by rw [hAB]; exact hb0, by rw [hAk]; exact OXT, by rw [hAk]; exact HXS.out.below hbST, hso.1, hso.2, HBS.out.fr _ (Nat.le_refl _), HBS.out.fr _ (by omega), HBS.out.fr _ (by omega), (hb5w.trans (hbxS.mono hb5w.size)).trans (hbST.mono (by have := hb5w.size; omega)), by omega, hb5w.size, ⟨by have := hb5w.size; omega, by have := hb5w.size; omega, by omega, by have := HXS.out.cp.1; omega, by omega, by rw [hAk]; have := HBS.out.st.1; dsimp only at this; omega⟩, by omega⟩)
    have HAB := Lib.hid hAB; have HAK := Lib.hid hAk;have hzT2 : wS.heap.size + 1 ≤ wT.heap.size := by omega
    clear hso HBS HXS OXT hWT hiv0 htg0 hA hAB hAk hbST hzT;have HWK := Lib.hid (show ∀ (a : Nat) (inn : List PSpan) (t : Int) (out : List PSpan), a < f.code.length → LOk rg inn → t ∈ nextP f a → wayP m f a t inn = some out → LOk rg out from (by
     have h := way_keep HM.out HE.out hfn (by rw [HFE.out]; exact HRG.out);rw [HFE.out] at h;exact h))
    refine range_rounds m f W5.heap.size A f.code.length rg wS.heap.size (startS f) (fun pre W => ∃ iv tg, RI W5.heap.size A f.code.length rg wS.heap.size wT.heap.size w.heap.size (w.heap.size + 1) W2.heap.size p [.slice ta tl tc, .slice (some ⟨fb, fo, none⟩) fl fc] [.string f.name, .slice pa pl pc, .int .i64 rg, .int .i64 f.words, .slice ca f.code.length cc] w (stAt m f (startS f) pre) W iv tg) rfl rfl rfl hn0 hn1 ?_ ?_ ?_ (fun s h1 h2 h3 => (pass_pot rfl hrg0 HWK.out h1 h2 h3).2.2) ⟨_, _, HR0.out⟩ ?_ ?_
    ·rintro pre W ⟨iv, tg, h⟩; exact ⟨⟨iv, tg, h.b⟩, h.x, h.so, h.mo⟩
    ·rintro pre W W' ⟨iv, tg, h⟩ hb; exact ⟨iv, tg, h.below hb⟩
    ·rintro pre W W' ⟨iv, tg, h⟩ hc; exact ⟨iv, tg, h.turn hc⟩
    ·apply Exists.intro;constructor
     ·intro l' x W K hK;have HK := Lib.hid hK;clear hK;gi_wp2;exact HK.out
     ·rintro l' pre x W ⟨iv, tg, hR⟩ hxn hsz;have hsn := stAt_snoc m f (startS f) pre x;generalize stAt m f (startS f) pre = s at *;have HSN := Lib.hid hsn;clear hsn;have hb := hR.b;rw [HAB.out] at hb;have hbo := hR.bo;rw [HAK.out] at hbo;have HR := Lib.hid hR;have k4 := own4 hb.st;have p1 := own1 hbo.cp;obtain ⟨m1, m2, m3, m4⟩ := hb.rd hxn;obtain ⟨z1, z2, z3⟩ := hb.fz x;have hxi : (x : Int) < (f.code.length : Int) := by omega
      dsimp only at k4 m1 m2 m3 m4 z1 z2 z3;by_cases hm : s.mrk.getD x false = true
      ·have hst : stepS m f s x = (nextP f x).foldl (wayS m f x (s.inn.getD x [])) { s with mrk := s.mrk.set x false } := by unfold stepS; rw [if_pos hm]
       have HST := Lib.hid hst;clear hst;rw [hm] at m3;have hinn : LOk rg (s.inn.getD x []) := (hR.so.inn x hxn).resolve_left (hR.mo x hxn hm);rcases hb.ei x hxn with ⟨e1, e2⟩ | ⟨ob, oc, e1, e2, e3⟩
       ·exact absurd e2 (hR.mo x hxn hm)
       dsimp only at e1 e3;rw [e1] at m1;have m1' : W.cell? ⟨b1, x, none⟩ = some (.slice (some ⟨ob, 0, none⟩) rg oc) := m1;clear m1;have htb6 : tg b6 = 4 := hb.tm;have htb1 : tg b1 = 2 := hb.ti;have htk : tg k = 1 := hb.tk;have hne1 : b6 ≠ k := fun e => by rw [e] at htb6; omega
       have hne2 : b6 ≠ p := fun e => by have := hbo.tp; rw [← e] at this; omega
       have hne3 : b6 ≠ b1 := fun e => by rw [e] at htb6; omega
       have hbM := hb.setM x false;have hsoM : SOk f.code.length rg { s with mrk := s.mrk.set x false } := ⟨hR.so.li, hR.so.lc, by simp [hR.so.lm], hR.so.lj, hR.so.inn, hR.so.chg⟩
       have hmoM : MOk f.code.length { s with mrk := s.mrk.set x false } := fun v hv hq => by
        dsimp only at hq ⊢;rw [getD_ext] at hq;split at hq
        ·cases hq
        ·exact hR.mo v hv hq
       have hcM : Chg (fun x => tg x ≠ 0) W (W.setCell ⟨b6, x, none⟩ (.bool false)) := Chg.setCell (Chg.refl _ _) (.inl (by show tg b6 ≠ 0; rw [htb6]; decide)) _;have HR1 : Hid (RI W5.heap.size A f.code.length rg wS.heap.size wT.heap.size w.heap.size (w.heap.size + 1) W2.heap.size p [.slice ta tl tc, .slice (some ⟨fb, fo, none⟩) fl fc] [.string f.name, .slice pa pl pc, .int .i64 rg, .int .i64 f.words, .slice ca f.code.length cc] w { s with mrk := s.mrk.set x false } (W.setCell ⟨b6, x, none⟩ (.bool false)) iv tg) := Lib.hid (hR.wr (by rw [HAB.out]; exact hbM) hcM (fun _ _ => rfl) hsoM hmoM);have hobt : tg ob = 6 + 2 * x := e3;have e2M := e2.chg (chgSet W b6 x (.bool false)) (fun e => by have e4 : ob = b6 := e; rw [e4] at hobt; omega);have hcl1 := clone_is (some ⟨ob, 0, none⟩) rg oc (s.inn.getD x []) _ hinn.1 (fun _ => ⟨ob, 0, rfl, e2M.lt, fun j u hu => by rw [Nat.zero_add]; exact e2M.src j u hu⟩) hrg64;have HCl := Lib.hid hcl1;have hrc : ∀ q, wT.heap.size ≤ q → q < wT.heap.size + 2 → (W.setCell ⟨b6, x, none⟩ (.bool false)).heap[q]? = W.heap[q]? := hR.recd hcM (fun x e => .inl e) hsz;have HRC := Lib.hid hrc;have HNx : Hid (∀ w', Below w.heap.size w w' → Calls Tryd.prog 20 #[.agg #[.string f.name, .slice pa pl pc, .int .i64 rg, .int .i64 f.words, .slice ca f.code.length cc], .int .i64 x] w' (FreshI w' (nextP f x))) := Lib.hid (fun w' hw => by
        have h := next_any B ⟨pa, pl, pc, ca, f.code.length, cc⟩ f x w' (Nat.le_trans hB hw.size) (HFO.out.same (Same.of hw hB)) hxn;unfold FuncVal at h;dsimp only at h;rw [HRG.out] at h;exact h)
       have HINN := Lib.hid hinn;have hz1 : (W.setCell ⟨b6, x, none⟩ (.bool false)).heap.size = W.heap.size := by simp
       have HFR := Lib.hid hb.fr;clear hR hb hbo HR hbM hsoM hmoM hcM e2 e2M hcl1 hrc hinn m2 m4 z1 z3 hm HR0 e1 e3 hobt;generalize hinnq : s.inn.getD x [] = inn at *;obtain ⟨s1, hs1⟩ : ∃ s1 : PBS, s1 = { s with mrk := s.mrk.set x false } := ⟨_, rfl⟩
       rw [← hs1] at HR1 HST;clear hs1 hinnq;gi_wp2_with (first | (refine ⟨trivial, rfl, ?_⟩; gi_at_call 12; refine (callsIn_round HCl.out).mono ?_; rintro e w2 ⟨v, rfl, va, vc, rfl, hvc1, hvc2, hvn, hvr, hb2⟩; have R2 := Lib.hid (HR1.out.below hb2); have f5 := own5 R2.out.bo.cf; have hz2 := hb2.size; clear k4 p1 m3 z2 m1') | (refine ⟨trivial, rfl, ?_⟩; gi_at_call 20; refine (callsIn_round (HNx.out _ R2.out.be)).mono ?_; rintro e w3 ⟨nv, rfl, hb3, hr3, hf3, hn3⟩; obtain ⟨na, nc, rfl⟩ : ∃ na nc, nv = .slice na (nextP f x).length nc := (by rcases row_form hr3 with ⟨rfl, h0, _⟩ | ⟨g, c, rfl, _, _, _⟩; exact ⟨none, 0, by rw [h0]⟩; exact ⟨_, _, rfl⟩)))
       have hz3 := hb3.size;obtain ⟨ib, hva, hib, hsi⟩ : ∃ ib, va = some ⟨ib, 0, none⟩ ∧ W.heap.size ≤ ib ∧ ∀ c, SpRow w2 ib rg c inn := by
        rcases hvr with ⟨_, h0⟩ | ⟨b, h1, h2, h3⟩
        ·omega
        ·exact ⟨b, h1, by omega, h3⟩
       subst hva;have hnlen := nextP_len f x;have hin := fun (t : Int) (ht : t ∈ nextP f x) => nextP_in f x t ht;have HWP := Lib.hid (fun (t : Int) (out : List PSpan) (ht : t ∈ nextP f x) hw => HWK.out x inn t out hxn HINN.out ht hw);generalize nextP f x = nl at *;have HIN := Lib.hid hin;have htib : tg ib = 0 := HFR.out ib hib;have htna : ∀ q, na = some ⟨q, 0, none⟩ → W.heap.size ≤ q := fun q hq => by
        have := hf3 q (by rw [hq]; rfl);omega
       have HTNA := Lib.hid htna;have hrc3 : Hid (∀ q, wT.heap.size ≤ q → q < wT.heap.size + 2 → w3.heap[q]? = W.heap[q]?) := Lib.hid (fun q h1 h2 => ((hb3.block q (by omega)).trans (hb2.block q (by omega))).trans (HRC.out q h1 h2));have HR3 := Lib.hid (R2.out.below hb3);have HI3 := Lib.hid ((hsi vc).below hb3);have HN3 := Lib.hid hr3;have hib2 : wT.heap.size + 2 ≤ ib := by omega
       have HTH : Hid (NumsAt B w ta tl m.thr) := Lib.hid (by
        obtain ⟨_, _, _, _, _, _, hv, h2, _⟩ := HM.out;cases hv;exact h2)
       have HIF : Hid (InsFine m f (f.code.getD x default)) := Lib.hid (by
        have h := HFI.out.ins fn x hfn (by rw [HFE.out]; exact hxn);rw [HFE.out] at h;exact h)
       have hz3w : W.heap.size ≤ w3.heap.size := by omega
       have HT0 : Hid (tg ib = 0 ∧ ∀ q, na = some ⟨q, 0, none⟩ → tg q = 0) := Lib.hid ⟨htib, fun q hq => HFR.out q (htna q hq)⟩;clear htna hr3 hf3 hn3 hsi hvr hvn hvc1 hvc2 R2 f5 HRC HCl HNx htib hb2 hb3 HR1 hin;gi_loopw [120] (fun i wx => ∃ (j : Nat) (iv : Nat → Option (Nat × Nat)) (tg : Nat → Nat), j ≤ nl.length ∧ i = .int .i64 j ∧ Hid (RI W5.heap.size A f.code.length rg wS.heap.size wT.heap.size w.heap.size (w.heap.size + 1) W2.heap.size p [.slice ta tl tc, .slice (some ⟨fb, fo, none⟩) fl fc] [.string f.name, .slice pa pl pc, .int .i64 rg, .int .i64 f.words, .slice ca f.code.length cc] w ((nl.take j).foldl (wayS m f x inn) s1) wx iv tg) ∧ Hid (SpRow wx ib rg vc inn) ∧ Hid (wx.ownsRow 0 3 1 (.slice na nl.length nc) nl.length (Nums nl)) ∧ Hid (tg ib = 0 ∧ ∀ q, na = some ⟨q, 0, none⟩ → tg q = 0) ∧ Hid (∀ q, wT.heap.size ≤ q → q < wT.heap.size + 2 → wx.heap[q]? = W.heap[q]?) ∧ W.heap.size ≤ wx.heap.size) (fun i _ => nl.length - (intOf i).toNat)
       case atStart => exact ⟨0, iv, tg, Nat.zero_le _, rfl, HR3, HI3, HN3, HT0, hrc3, hz3w⟩
       case round =>
        clear HR3 HI3 HN3 HT0 hrc3 hz3w htb6 htb1 htk HFR;clear iv tg;rename_i wq;obtain ⟨j, iv, tg, hj, rfl, HR, HI, HN, HT, HQ, hzx⟩ := hrel;by_cases hjt : j < nl.length
        ·have d3 : (j : Int) < (nl.length : Int) := by omega
         have hwj : IntKind.i64.wrap ((j : Int) + 1) = (j : Int) + 1 := IntWalk.i64_in _ (by omega);obtain ⟨nb, nc', hnv, -, -, hnbl⟩ := row_pos HN.out (by omega);cases hnv;have hnb2 := HTNA.out nb rfl;have hgj : nl[j]? = some (nl[j]'hjt) := List.getElem?_eq_getElem hjt;have n0 := row_cell HN.out (Nums_some hgj);have hmem : nl[j]'hjt ∈ nl := List.getElem_mem hjt;obtain ⟨h0, h1⟩ := HIN.out _ hmem;have hTk : nl.take (j + 1) = nl.take j ++ [nl[j]'hjt] := by rw [List.take_add_one, hgj]; rfl
         have HTK := Lib.hid hTk;have HWP2 := Lib.hid (fun out hw => HWP.out _ out hmem hw);clear hTk hgj hmem;generalize nl[j]'hjt = t at *;obtain ⟨tt, rfl⟩ := Int.eq_ofNat_of_zero_le h0;have htt : tt < f.code.length := by omega
         have hcl2 := clone_is (some ⟨ib, 0, none⟩) rg vc inn wr HINN.out.1 (fun _ => ⟨ib, 0, rfl, HI.out.lt, fun j u hu => by rw [Nat.zero_add]; exact HI.out.src j u hu⟩) hrg64;have HCl2 := Lib.hid hcl2;clear hcl2;obtain ⟨res, hres⟩ : ∃ res, wayP m f x (tt : Int) inn = res := ⟨_, rfl⟩
         have HAw : Hid (∀ w' ob2 oc2, Below w.heap.size w w' → SpRow w' ob2 rg oc2 inn → B ≤ ob2 → Calls Tryd.prog 21 #[.agg #[.slice ta tl tc, .slice (some ⟨fb, fo, none⟩) fl fc], .agg #[.string f.name, .slice pa pl pc, .int .i64 rg, .int .i64 f.words, .slice ca f.code.length cc], .int .i64 x, .int .i64 tt, .slice (some ⟨ob2, 0, none⟩) rg oc2] w' (AwayPost ob2 rg oc2 w' res)) := Lib.hid (fun w' ob2 oc2 hw hs hob => by
          have h := away_any (f.code.getD x default) B m ⟨pa, pl, pc, ca, f.code.length, cc⟩ f ta (some ⟨fb, fo, none⟩) tl tc fl fc x (tt : Int) ob2 rg oc2 inn w' (Nat.le_trans hB hw.size) (HFO.out.same (Same.of hw hB)) hxn hn1 rfl HIF.out hs HRG.out.symm hrg64 HINN.out (HM.out.same (Same.of hw hB)) hob;rw [hres] at h;unfold FuncVal at h;dsimp only at h;rw [HRG.out] at h;exact h)
         have HRES := Lib.hid hres;clear hres;cases res with
         | none =>
          gi_wp2_with (first | (refine ⟨trivial, rfl, ?_⟩; gi_at_call 12; refine (callsIn_round HCl2.out).mono ?_; rintro e w4 ⟨v, rfl, ua, uc, rfl, huc1, huc2, hun, hur, hb4⟩; obtain ⟨ob2, hua, hob2, hs4⟩ : ∃ ob2, ua = some ⟨ob2, 0, none⟩ ∧ wr.heap.size ≤ ob2 ∧ ∀ c, SpRow w4 ob2 rg c inn := (by rcases hur with ⟨_, h0⟩ | ⟨b, h1, h2, h3⟩; omega; exact ⟨b, h1, h2, h3⟩); subst hua; have R4 := Lib.hid (HR.out.below hb4); have f5 := own5 R4.out.bo.cf; have m2 := own2 R4.out.bo.cm; have hz4 := hb4.size; clear n0) | (refine ⟨trivial, rfl, ?_⟩; gi_at_call 21; refine (callsIn_round (HAw.out w4 ob2 uc R4.out.be (hs4 uc) (by omega))).mono ?_; rintro e w5 ⟨rfl, hc5, hs5⟩; have htg2 : tg ob2 = 0 := HR.out.b.fr ob2 hob2; have R5 := Lib.hid (R4.out.keep hc5 (fun q e => by have e2 : q = ob2 := e; rw [e2]; exact ⟨htg2, by omega⟩)); have hz5 := hc5.size; clear f5 m2; have m5 := own2 R5.out.bo.cm; have p5 := own1 R5.out.bo.cp) | fail)
          have hst : (nl.take (j + 1)).foldl (wayS m f x inn) s1 = (nl.take j).foldl (wayS m f x inn) s1 := by
           rw [HTK.out, List.foldl_append, List.foldl_cons, List.foldl_nil];unfold wayS;rw [HRES.out]
          have hibl := HI.out.lt;refine ⟨⟨j + 1, iv, tg, by omega, by simp, Lib.hid (by rw [hst]; exact R5.out), Lib.hid ((HI.out.below hb4).chg hc5 (fun e => by have e2 : ib = ob2 := e; omega)), Lib.hid (rowB_chg hc5 (row_below hb4 HN.out) (fun e => by have e2 : nb = ob2 := e; omega)), HT, Lib.hid (fun q h1 h2 => ((hc5.block q (by omega) (fun e => by have e2 : q = ob2 := e; omega)).trans (hb4.block q (by omega))).trans (HQ.out q h1 h2)), by omega⟩, ?_⟩;go_light; first | omega | (simp only [intOf]; omega)
         | some out =>
          have hok := HWP2.out out HRES.out;have HMg : Hid (∀ w' ob2 oc2, RI W5.heap.size A f.code.length rg wS.heap.size wT.heap.size w.heap.size (w.heap.size + 1) W2.heap.size p [.slice ta tl tc, .slice (some ⟨fb, fo, none⟩) fl fc] [.string f.name, .slice pa pl pc, .int .i64 rg, .int .i64 f.words, .slice ca f.code.length cc] w ((nl.take j).foldl (wayS m f x inn) s1) w' iv tg → SpRow w' ob2 rg oc2 out → tg ob2 = 0 → W5.heap.size ≤ ob2 → Calls Tryd.prog 22 #[.pointer (some ⟨A.k, 0, none⟩), .int .i64 tt, .slice (some ⟨ob2, 0, none⟩) rg oc2, .slice ta tl tc] w' (MergePost W5.heap.size { A with iv := iv, tg := tg } f.code.length rg ob2 (mergeP m.thr ((nl.take j).foldl (wayS m f x inn) s1) tt out) w')) := Lib.hid (fun w' ob2 oc2 hR hs ht hN => by
           have h := merge_any W5.heap.size { A with iv := iv, tg := tg } f.code.length rg _ m.thr ta tl tc tt ob2 oc2 out w' hR.b hs htt ht hN hR.nz ((HTH.out.same (Same.of hR.be hB)).monoB (by have := hR.nw; omega)) hR.so hok hrg0 hrg64 hn1;exact h)
          have HOK := Lib.hid hok;clear hok;gi_wp2_with (first | (refine ⟨trivial, rfl, ?_⟩; gi_at_call 12; refine (callsIn_round HCl2.out).mono ?_; rintro e w4 ⟨v, rfl, ua, uc, rfl, huc1, huc2, hun, hur, hb4⟩; obtain ⟨ob2, hua, hob2, hs4⟩ : ∃ ob2, ua = some ⟨ob2, 0, none⟩ ∧ wr.heap.size ≤ ob2 ∧ ∀ c, SpRow w4 ob2 rg c inn := (by rcases hur with ⟨_, h0⟩ | ⟨b, h1, h2, h3⟩; omega; exact ⟨b, h1, h2, h3⟩); subst hua; have R4 := Lib.hid (HR.out.below hb4); have f5 := own5 R4.out.bo.cf; have m2 := own2 R4.out.bo.cm; have hz4 := hb4.size; clear n0) | (refine ⟨trivial, rfl, ?_⟩; gi_at_call 21; refine (callsIn_round (HAw.out w4 ob2 uc R4.out.be (hs4 uc) (by omega))).mono ?_; rintro e w5 ⟨rfl, hc5, hs5⟩; have htg2 : tg ob2 = 0 := HR.out.b.fr ob2 hob2; have R5 := Lib.hid (R4.out.keep hc5 (fun q e => by have e2 : q = ob2 := e; rw [e2]; exact ⟨htg2, by omega⟩)); have hz5 := hc5.size; clear f5 m2; have m5 := own2 R5.out.bo.cm; have p5 := own1 R5.out.bo.cp) | (refine ⟨trivial, rfl, ?_⟩; gi_at_call 22; refine (callsIn_round (HMg.out w5 ob2 uc R5.out (hs5 out rfl) htg2 (by omega))).mono ?_; rintro e w6 ⟨rfl, iv6, tg6, hb6, hc6, ht6⟩) | fail)
          have hst : (nl.take (j + 1)).foldl (wayS m f x inn) s1 = mergeP m.thr ((nl.take j).foldl (wayS m f x inn) s1) tt out := by
           rw [HTK.out, List.foldl_append, List.foldl_cons, List.foldl_nil];generalize (nl.take j).foldl (wayS m f x inn) s1 = sj;unfold wayS;rw [HRES.out];rfl
          have hibl := HI.out.lt;have hz6 := hc6.size;have R6 := R5.out.wr hb6 hc6 (fun q hq => ht6 q (by omega)) (mergeP_ok R5.out.so htt HOK.out) (mergeP_mok R5.out.so R5.out.mo hrg0 HOK.out.1);have hrd := R5.out.recd hc6 (fun x e => .inl e) (by omega);refine ⟨⟨j + 1, iv6, tg6, by omega, by simp, Lib.hid (by rw [hst]; exact R6), Lib.hid (((HI.out.below hb4).chg hc5 (fun e => by have e2 : ib = ob2 := e; omega)).chg hc6 (fun e => e HT.out.1)), Lib.hid (rowB_chg hc6 (rowB_chg hc5 (row_below hb4 HN.out) (fun e => by have e2 : nb = ob2 := e; omega)) (fun e => e (HT.out.2 nb rfl))), Lib.hid ⟨(ht6 ib (by omega)).trans HT.out.1, fun q hq => by cases hq; exact (ht6 nb (by omega)).trans (HT.out.2 nb rfl)⟩, Lib.hid (fun q h1 h2 => ((hrd q h1 h2).trans ((hc5.block q (by omega) (fun e => by have e2 : q = ob2 := e; omega)).trans (hb4.block q (by omega)))).trans (HQ.out q h1 h2)), by omega⟩, ?_⟩;go_light; first | omega | (simp only [intOf]; omega)
        ·obtain rfl : j = nl.length := by omega
         have d3 : ¬ (nl.length : Int) < (nl.length : Int) := by omega
         gi_wp2;exact ⟨HQ.out, iv, tg, by rw [HSN.out, HST.out]; have h9 := HR.out; rw [List.take_length] at h9; exact h9⟩
      ·have hm' : s.mrk.getD x false = false := by simpa using hm
       rw [hm'] at m3;have hst : stepS m f s x = s := by unfold stepS; rw [if_neg hm]
       have HST := Lib.hid hst;clear hst hm hm' hR hb hbo;gi_wp2;exact ⟨fun k _ _ => rfl, iv, tg, by rw [HSN.out, HST.out]; exact HR.out⟩
    ·rintro xs W7 hruns ⟨iv, tg, hR⟩ hD;have hb := hR.b;rw [HAB.out] at hb;have hbo := hR.bo;rw [HAK.out] at hbo;have k4 := own4 hb.st;dsimp only at k4;have p1 := own1 hbo.cp;have a2 := own2 hbo.ca;have HRu := Lib.hid hruns; have HD := Lib.hid hD; have HR := Lib.hid hR; have HB7 := Lib.hid hb; have HO7 := Lib.hid hbo;have hcA := chgR W7 (w.heap.size + 1) (.slice (some ⟨b1, 0, none⟩) f.code.length f.code.length) (.slice (some ⟨b3, 0, none⟩) f.code.length f.code.length);have hDz : ((W7.setCell ⟨w.heap.size + 1, 0, none⟩ (.slice (some ⟨b1, 0, none⟩) f.code.length f.code.length)).setCell ⟨w.heap.size + 1, 1, none⟩ (.slice (some ⟨b3, 0, none⟩) f.code.length f.code.length)).heap[wT.heap.size]? = some (.deferred (some [])) := by
      rw [← hD];exact hcA.block _ (Array.getElem?_eq_some_iff.1 hD).1 (by show ¬ (wT.heap.size = w.heap.size + 1); have := hR.lq; omega)
     have htz := Turn.put (b := wT.heap.size) _ wT.heap.size _ (.deferred none) (Nat.le_refl _) hDz rfl;have hbz := (hb.keep hcA (fun x e => by have e2 : x = w.heap.size + 1 := e; rw [e2]; exact hbo.ta)).turn htz (by have := hR.lq.2.2.2.2.2; rw [HAK.out] at this; exact this);have haz := (((hbo.ca.set 0 (.slice (some ⟨b1, 0, none⟩) f.code.length f.code.length) (by simp)).set 1 (.slice (some ⟨b3, 0, none⟩) f.code.length f.code.length) (by simp))).turn htz hR.lq.2.1;have hbez : Below w.heap.size w _ := ((hR.be.setCell (p := ⟨w.heap.size + 1, 0, none⟩) (by show w.heap.size ≤ w.heap.size + 1; omega) (.slice (some ⟨b1, 0, none⟩) f.code.length f.code.length)).setCell (p := ⟨w.heap.size + 1, 1, none⟩) (by show w.heap.size ≤ w.heap.size + 1; omega) (.slice (some ⟨b3, 0, none⟩) f.code.length f.code.length)).trans (htz.below.mono (by have := hR.lq; omega));have HBZ := Lib.hid hbz; have HAZ := Lib.hid haz; have HBE2 := Lib.hid hbez; have HDZ := Lib.hid hDz;clear hruns hD hR hb hbo HR0 hbz haz hbez hDz htz hcA;go_wp2
     try rw [Exit.noGoto_ret]
     refine ⟨by simp, .inl ⟨_, _, rfl, run_takeDeferred HDZ.out, ?_⟩⟩;obtain ⟨-, y0, y1, -, -⟩ := own2 HAZ.out;refine ⟨.tuple #[.agg #[.slice (some ⟨b1, 0, none⟩) f.code.length f.code.length, .slice (some ⟨b3, 0, none⟩) f.code.length f.code.length], .int .i64 0], by simp [results, Tryd.results7, go_sem, y0, y1], ?_⟩;exact ⟨_, rg, { k := k, ib := b1, ic := f.code.length, cb := b3, cc := f.code.length, mb := b6, mc := f.code.length, jb := b8, jc := f.code.length, iv := iv, cv := cv, tg := tg }, _, by rw [HFE.out]; exact HRG.out, by rw [HFE.out]; exact HRu.out, by rw [HFE.out], by rw [HFE.out]; exact HBZ.out, by rw [HFE.out]; exact HR.out.so, hb5w.size, HBE2.out⟩
end
section
attribute [local go_sem] Oper.semAt_some
theorem run_arg (B : Nat) (m : PMod) (fn : Int) (ta fa : Option Addr) (tl tc fl fc : Nat) (w : World) (hB : B ≤ w.heap.size) (hB0 : 0 < B) (hmo : ModAt B w (.agg #[.slice ta tl tc, .slice fa fl fc]) m) (hr : RowsAt w) (he : (mayP m).e = 0) (hfn : fn < 0 ∨ (m.funcs.length : Int) ≤ fn) :
 Calls Tryd.prog 7 #[.agg #[.slice ta tl tc, .slice fa fl fc], .int .i64 fn] w fun e w' => e = .returned (.tuple #[.agg #[.slice none 0 0, .slice none 0 0], .int .i64 1]) ∧ Below w.heap.size w w' := by
 have HM := Lib.hid hmo; have HRW := Lib.hid hr;have HMay := Lib.hid (fun w' hw hr' => may_any B (.agg #[.slice ta tl tc, .slice fa fl fc]) m w' hw hB0 hr');rw [he] at HMay;obtain ⟨_, _, _, _, _, _, hv, ⟨htl, htm, -⟩, hfs⟩ := hmo;cases hv;obtain ⟨hfl1, hfl2, -⟩ := hfs;clear hr;refine (callsIn_wide (n := 3)).1 ?_;refine callsIn_of_wp_marks Tryd.func7 rfl trivial ?_ rfl;refine wpIn_wide.2 ?_;simp only [Tryd.ntmps7, List.size_toArray, List.length_cons, List.length_nil, Nat.reduceAdd, Nat.reduceSub, Array.replicate_succ, Array.replicate_zero, List.push_toArray, List.append_toArray, List.nil_append, List.cons_append];go_wp2;generalize hW0 : World.alloc _ _ = W0;have hb0 : Below w.heap.size w W0 := by rw [← hW0]; exact bel
 have OM : Own W0 w.heap.size [.slice ta tl tc, .slice fa fl fc] := by rw [← hW0]; exact (Own.new _ _ _).alloc _
 have OA : Own W0 (w.heap.size + 1) [.slice none 0 0, .slice none 0 0] := by rw [← hW0]; exact Own.new' _ _ _ _ (by simp)
 have hz0 : w.heap.size + 2 = W0.heap.size := by rw [← hW0]; simp
 have hz0' : w.heap.size + 2 ≤ W0.heap.size := by omega
 have m2 := own2 OM;have HC := Lib.hid (HMay.out W0 (by omega) (HM.out.same (Same.of hb0 hB)) (HRW.out.same (Same.of hb0 (Nat.le_refl _)) HRW.out.1 hb0.size));clear hW0 HMay hz0;go_step3;by_cases q1 : fn < 0
 ·have q3 : decide (fn < 0) = true := by simpa using q1
  go_upto_region 5 with (first | (go_at_call 18; refine HC.out.mono ?_; rintro e w1 ⟨rfl, hb1⟩; have m2b := own2 (OM.below hb1); have a2b := own2 (OA.below hb1); clear m2) | fail)
  go_wp2;rw [Exit.noGoto_ret];have hbe : Below w.heap.size w w1 := hb0.trans (hb1.mono (by omega));have hz1 := hb1.size;refine ⟨.tuple #[.agg #[.slice none 0 0, .slice none 0 0], .int .i64 1], by simp [results, Tryd.results7, go_sem, a2b.1, a2b.2.1, a2b.2.2.1], rfl, ?_⟩;exact ((hbe.setCell (p := ⟨w.heap.size + 1, 0, none⟩) (by show w.heap.size ≤ w.heap.size + 1; omega) _).setCell (p := ⟨w.heap.size + 1, 1, none⟩) (by show w.heap.size ≤ w.heap.size + 1; omega) _).alloc (by have := hbe.size; simpa using this) _
 ·have q2 : decide ((fl : Int) ≤ fn) = true := by simp; omega
  have q3 : decide (fn < 0) = false := by simpa using q1
  have q4 : (fl : Int) ≤ fn := by omega
  go_upto_region 5 with (first | (go_at_call 18; refine HC.out.mono ?_; rintro e w1 ⟨rfl, hb1⟩; have m2b := own2 (OM.below hb1); have a2b := own2 (OA.below hb1); clear m2) | fail)
  go_wp2;rw [Exit.noGoto_ret];have hbe : Below w.heap.size w w1 := hb0.trans (hb1.mono (by omega));have hz1 := hb1.size;refine ⟨.tuple #[.agg #[.slice none 0 0, .slice none 0 0], .int .i64 1], by simp [results, Tryd.results7, go_sem, a2b.1, a2b.2.1, a2b.2.2.1], rfl, ?_⟩;exact ((hbe.setCell (p := ⟨w.heap.size + 1, 0, none⟩) (by show w.heap.size ≤ w.heap.size + 1; omega) _).setCell (p := ⟨w.heap.size + 1, 1, none⟩) (by show w.heap.size ≤ w.heap.size + 1; omega) _).alloc (by have := hbe.size; simpa using this) _
end
section
attribute [local go_sem] Oper.semAt_some
theorem trips_arg (B : Nat) (m : PMod) (fn : Int) (ta fa : Option Addr) (tl tc fl fc : Nat) (w : World) (hB : B ≤ w.heap.size) (hB0 : 0 < B) (hmo : ModAt B w (.agg #[.slice ta tl tc, .slice fa fl fc]) m) (hr : RowsAt w) (he : (mayP m).e = 0) (hfn : fn < 0 ∨ (m.funcs.length : Int) ≤ fn) :
 Calls Tryd.prog 4 #[.agg #[.slice ta tl tc, .slice fa fl fc], .int .i64 fn] w fun e w' => e = .returned (.tuple #[.slice none 0 0, .int .i64 1]) ∧ Below w.heap.size w w' := by
 have HM := Lib.hid hmo; have HRW := Lib.hid hr;have HRun := Lib.hid (fun w' hB hmo hr => run_arg B m fn ta fa tl tc fl fc w' hB hB0 hmo hr he hfn);clear hmo hr;refine (callsIn_wide (n := 3)).1 ?_;refine callsIn_of_wp_marks Tryd.func4 rfl trivial ?_ rfl;refine wpIn_wide.2 ?_;simp only [Tryd.ntmps4, List.size_toArray, List.length_cons, List.length_nil, Nat.reduceAdd, Nat.reduceSub, Array.replicate_succ, Array.replicate_zero, List.push_toArray, List.append_toArray, List.nil_append, List.cons_append];go_upto_region 1 with (fail)
 generalize hW0 : World.alloc _ _ = W0;have hb0 : Below w.heap.size w W0 := by rw [← hW0]; exact bel
 have OM : Own W0 w.heap.size [.slice ta tl tc, .slice fa fl fc] := by rw [← hW0]; exact (Own.new _ _ _).alloc _
 have OI : Own W0 (w.heap.size + 1) [.int .i64 fn] := by rw [← hW0]; exact Own.new' _ _ _ _ (by simp)
 have hz0 : w.heap.size + 2 = W0.heap.size := by rw [← hW0]; simp
 have hz0' : w.heap.size + 2 ≤ W0.heap.size := by omega
 have m2 := own2 OM;have i1 := own1 OI;have HC := Lib.hid (HRun.out W0 (by omega) (HM.out.same (Same.of hb0 hB)) (HRW.out.same (Same.of hb0 (Nat.le_refl _)) HRW.out.1 hb0.size));clear hW0 HRun hz0;go_wp2_with (first | (go_at_call 7; refine HC.out.mono ?_; rintro e w1 ⟨rfl, hb1⟩) | fail)
 try rw [Exit.noGoto_ret]
 have hbe : Below w.heap.size w w1 := hb0.trans (hb1.mono (by omega));refine ⟨.tuple #[.slice none 0 0, .int .i64 1], by simp [results, Tryd.results4, go_sem], rfl, ?_⟩
 first | exact hbe.alloc hbe.size _ | exact (hbe.alloc hbe.size _).drew | exact hbe
end
/-- what Edge hands back -/
def EdgePost (w : World) (rg : Nat) (res : Option (List PSpan)) (e : Ending) (w' : World) : Prop := ∃ v, e = .returned (.tuple #[v, .bool res.isSome]) ∧ Below w.heap.size w w' ∧ ∀ out, res = some out → ∃ g cap, v = .slice (some ⟨g, 0, none⟩) rg cap ∧ SpRow w' g rg cap out ∧ w.heap.size ≤ g
theorem edge_ok (B : Nat) (m : PMod) (fn x : Nat) (to_ : Int) (ta fa : Option Addr) (tl tc fl fc b c rg : Nat) (r : List PSpan) (w : World) (hB : B ≤ w.heap.size) (hB0 : 0 < B) (hmo : ModAt B w (.agg #[.slice ta tl tc, .slice fa fl fc]) m) (hr : RowsAt w) (he : (mayP m).e = 0) (hfn : fn < m.funcs.length) (hrg : (fnAt m fn).regs = rg)
 (hx : x < (fnAt m fn).code.length) (hto : to_ ∈ nextP (fnAt m fn) x) (hin : SpRow w b rg c r) (hrok : LOk rg r) :
 Calls Tryd.prog 15 #[.agg #[.slice ta tl tc, .slice fa fl fc], .int .i64 fn, .int .i64 x, .int .i64 to_, .slice (some ⟨b, 0, none⟩) rg c] w (EdgePost w rg (wayP m (fnAt m fn) x to_ r)) := by
 have HM := Lib.hid hmo; have HRW := Lib.hid hr; have HIN := Lib.hid hin;have HMay := Lib.hid (fun w' hw hr' => may_any B (.agg #[.slice ta tl tc, .slice fa fl fc]) m w' hw hB0 hr');rw [he] at HMay;obtain ⟨_, _, _, _, _, _, hv, ⟨htl, htm, -⟩, hfs⟩ := hmo;cases hv;obtain ⟨hfl1, hfl2, fb, fo, hfb, H, hH⟩ := hfs;obtain ⟨rfl, hfbB⟩ := hfb (by omega);obtain ⟨hcells, hfo⟩ := hH fn (by omega);have hfine := fine_of he;have hff1 := hfine.fn fn hfn;have hif := hfine.ins fn x hfn hx;have hfe : m.funcs.getD fn default = fnAt m fn := rfl;rw [hfe] at hcells hfo;generalize H fn = hh at *;generalize fnAt m fn = f at *;obtain ⟨pa, pl, pc, ca, cl, cc⟩ := hh;have hcl : f.code.length = cl := hfo.2.2.1.1;subst hcl;obtain ⟨g0, g1, g2, g3, g4⟩ := hcells;dsimp only at g0 g1 g2 g3 g4;rw [hrg] at g2;have hrg0 : 0 < rg := by have := hff1.r1; omega
 have hrg64 : rg ≤ 64 := by have := hff1.r2; omega
 have hn1 : f.code.length ≤ 1024 := hff1.c2;have hfnl : (fn : Int) < (fl : Int) := by omega
 have q1 : ¬ (fn : Int) < 0 := by omega
 have q2 : decide ((fl : Int) ≤ (fn : Int)) = false := by simp; omega
 have q3 : decide ((fn : Int) < 0) = false := by simp
 have q4 : ((rg : Int) != (rg : Int)) = false := by simp
 have HFO := Lib.hid hfo; have HRG := Lib.hid hrg; have HIF := Lib.hid hif; have HTO := Lib.hid hto; have HROK := Lib.hid hrok;have hbl := hin.lt;have hfbw : fb < w.heap.size := by omega
 clear hH hfb hfo hfine hff1 hif hrg hto hfe hin hr;obtain ⟨RES, hRES⟩ : ∃ q, wayP m f x to_ r = q := ⟨_, rfl⟩
 rw [hRES];have HRES := Lib.hid hRES;clear hRES;have hfd : ∀ (x y : Int) (w : World), (Instr.field 66 (.agg #[.int .i64 0, .int .i64 x, .int .i64 y]) 0).run Tryd.prog w = .ok (.int .i64 0) w := by
  intro x y w
  first | rfl | (simp [Instr.field, go_sem])
 go_enter Tryd.func15, Tryd.ntmps15;go_upto_region 1 with (fail)
 generalize hW0 : World.alloc _ _ = W0;have hb0 : Below w.heap.size w W0 := by rw [← hW0]; exact bel
 have OM : Own W0 w.heap.size [.slice ta tl tc, .slice (some ⟨fb, fo, none⟩) fl fc] := by rw [← hW0]; exact Own.new _ _ _
 have hz0 : w.heap.size + 1 ≤ W0.heap.size := by rw [← hW0]; simp
 have m2 := own2 OM;have HC := Lib.hid (HMay.out W0 (by omega) (HM.out.same (Same.of hb0 hB)) (HRW.out.same (Same.of hb0 (Nat.le_refl _)) HRW.out.1 hb0.size));clear hW0 HMay;go_upto_region 3 with (first | (go_at_call 18; refine HC.out.mono ?_; rintro e w1 ⟨rfl, hb1⟩; have m2b := own2 (OM.below hb1); clear m2) | fail)
 have hz1 := hb1.size;have hb01 : Below w.heap.size w w1 := hb0.trans (hb1.mono (by omega));have OM1 := OM.below hb1;have sm := Same.of hb01 hB;rw [← sm _ _ (by show fb < B; omega)] at g0 g1 g2 g3 g4;go_upto_region 4 with (fail)
 generalize hW2 : World.alloc _ _ = W2;have hb12 : Below w1.heap.size w1 W2 := by rw [← hW2]; exact (Below.refl _ _).alloc (Nat.le_refl _) _
 have OF : Own W2 w1.heap.size [.string f.name, .slice pa pl pc, .int .i64 rg, .int .i64 f.words, .slice ca f.code.length cc] := by rw [← hW2]; exact Own.new _ _ _
 have hz2 : w1.heap.size + 1 ≤ W2.heap.size := by rw [← hW2]; simp
 have hb2 : Below w.heap.size w W2 := hb01.trans (hb12.mono (by omega));have OM2 := OM1.below hb12;have f5 := own5 OF;have hnx := next_any B ⟨pa, pl, pc, ca, f.code.length, cc⟩ f x W2 (by omega) (HFO.out.same (Same.of hb2 hB)) hx;unfold FuncVal at hnx;dsimp only at hnx;rw [HRG.out] at hnx;have HNX := Lib.hid hnx;clear hW2 hnx g0 g1 g2 g3 g4 sm m2b HC;have hin64 : ∀ y ∈ nextP f x, In64 y := fun y hy => by have := nextP_in f x y hy; unfold In64; omega
 have hct : (nextP f x).contains to_ = true := by rw [List.contains_iff_mem]; exact HTO.out
 have HCT := Lib.hid hct; have H64 := Lib.hid hin64;clear hct hin64;generalize nextP f x = nl at *;go_upto_region 6 with (first | (go_at_call 20; refine HNX.out.mono ?_; rintro e w3 ⟨nv, rfl, hb3, hr3, hf3, hn3⟩; obtain ⟨na, nc, hnv, hna⟩ := NumsAt.ofRow (B := w3.heap.size) hr3 H64.out (fun k hk => row_lt hr3 hk); subst hnv; have hci := contains_int na nl.length nc nl to_ _ w3 hna; rw [HCT.out] at hci; have f5b := own5 (OF.below hb3); clear f5) | (go_at_call 14; refine hci.mono ?_; rintro e w4 ⟨rfl, hw4⟩; have hw5 := hw4.symm; subst hw5) | fail)
 have hz3 := hb3.size;have hb03 : Below w.heap.size w w3 := hb2.trans (hb3.mono (by omega));have OM3 := Lib.hid (OM2.below hb3);have OF3 := Lib.hid (OF.below hb3);clear hr3 hf3 hn3 hna hci f5b OM2 OF HNX OM1 OM;go_wp2;go_loopw [51] (fun i wx => ∃ j : Nat, j ≤ rg ∧ i = .int .i64 j ∧ Below w3.heap.size w3 wx) (fun i _ => rg - (intOf i).toNat)
 case atStart => exact ⟨0, Nat.zero_le _, rfl, Below.refl _ _⟩
 case round =>
  obtain ⟨j, hj, rfl, hbx⟩ := hrel;have hzx := hbx.size;have hbwx : Below w.heap.size w wr := hb03.trans (hbx.mono (by omega));have HINx := Lib.hid (HIN.out.below hbwx);by_cases hjt : j < rg
  ·have d3 : (j : Int) < (rg : Int) := by omega
   have hwj : IntKind.i64.wrap ((j : Int) + 1) = (j : Int) + 1 := IntWalk.i64_in _ (by omega);obtain ⟨c0, c1, -, -⟩ := HINx.out.cells hjt;have hsp := (HROK.out.2 j hjt).2.2;generalize r.getD j default = pp at *;obtain ⟨plo, phi⟩ := pp;dsimp only at c0 c1 hsp;have hsp2 : ¬ phi < plo := by omega
   go_wp2;refine ⟨⟨j + 1, by omega, by simp, hbx.trans (Below.mono ((Below.refl _ _).alloc (Nat.le_refl _) _) hzx)⟩, ?_⟩;go_light; first | omega | (simp only [intOf]; omega)
  ·obtain rfl : j = rg := by omega
   have d3 : ¬ (j : Int) < (j : Int) := by omega
   have hlen : (spCells r).length = j * 2 := by rw [spCells_len, HINx.out.len]
   have HSRC := Lib.hid (src_at (w := wr) (spCells r) b 0 (fun q u hu => by rw [Nat.zero_add]; exact HINx.out.src q u hu));have HAw : Hid (∀ w' g2 c2, Below w.heap.size w w' → SpRow w' g2 j c2 r → B ≤ g2 → Calls Tryd.prog 21 #[.agg #[.slice ta tl tc, .slice (some ⟨fb, fo, none⟩) fl fc], .agg #[.string f.name, .slice pa pl pc, .int .i64 j, .int .i64 f.words, .slice ca f.code.length cc], .int .i64 x, .int .i64 to_, .slice (some ⟨g2, 0, none⟩) j c2] w' (AwayPost g2 j c2 w' RES)) := Lib.hid (fun w' g2 c2 hw hs hob => by
    have h := away_any (f.code.getD x default) B m ⟨pa, pl, pc, ca, f.code.length, cc⟩ f ta (some ⟨fb, fo, none⟩) tl tc fl fc x to_ g2 j c2 r w' (Nat.le_trans hB hw.size) (HFO.out.same (Same.of hw hB)) hx hn1 rfl HIF.out hs HRG.out.symm hrg64 HROK.out (HM.out.same (Same.of hw hB)) hob;rw [HRES.out] at h;unfold FuncVal at h;dsimp only at h;rw [HRG.out] at h;exact h)
   have OMx := Lib.hid (OM3.out.below hbx); have OFx := Lib.hid (OF3.out.below hbx);go_upto_region 13 with (first | (at_builtin; refine wpList_app rfl (.const (.slice none 0 0)) (.tmp 61) 40 53 2 16 (.agg #[.int .i64 0, .int .i64 0]) rfl Tryd.underlying40 Tryd.infoSp rfl (by decide) (.slice none 0 0) 0 [] rfl (World.ownsRow_nil _ _ _ _) ⟨b, 0, none⟩ j c (spCells r) rfl hlen HSRC.out (spCells_one r) (by unfold maxLen; omega) (by omega) hrg0 ?_; intro g cap w5 hr5 hc5 hg5) | fail)
   rw [Nat.zero_add, List.nil_append] at hr5;have hb5 : Below wr.heap.size wr w5 := hc5.below _ (Nat.le_refl _) (fun k _ e => by cases e);have hz5 := hb5.size;have hg5' : g = wr.heap.size := by
    rcases hg5 with h | h
    ·cases h
    ·exact h
   have hb05 : Below w.heap.size w w5 := hbwx.trans (hb5.mono (by omega));have hs5 : SpRow w5 g j cap r := ⟨_, hr5⟩
   have HA5 := Lib.hid (HAw.out w5 g cap hb05 hs5 (by omega));have m5 := own2 (OMx.out.below hb5);have f5 := own5 (OFx.out.below hb5);have hgw : w.heap.size ≤ g := by omega
   clear hr5 hc5 hg5 hg5' HAw hs5 HSRC hlen
   try rw [Nat.zero_add]
   cases RES with
   | none =>
    go_wp2_with (first | (go_at_call 21; refine HA5.out.mono ?_; rintro e w6 ⟨rfl, hc6, hs6⟩) | fail)
    try rw [Exit.noGoto_ret]
    go_ret2;exact ⟨_, rfl, hb05.trans (hc6.below _ hb05.size (fun k hk e => by have e2 : k = g := e; omega)), fun out ho => by cases ho⟩
   | some out =>
    go_wp2_with (first | (go_at_call 21; refine HA5.out.mono ?_; rintro e w6 ⟨rfl, hc6, hs6⟩) | fail)
    try rw [Exit.noGoto_ret]
    go_ret2;exact ⟨_, rfl, hb05.trans (hc6.below _ hb05.size (fun k hk e => by have e2 : k = g := e; omega)), fun out' ho => by cases ho; exact ⟨g, cap, rfl, hs6 _ rfl, hgw⟩⟩
end Go.Proofs.YteebpnbdihcfmaaDoor
