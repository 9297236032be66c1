/- The plain forms of package trips, and what they tell of a function that counts from one number to another one. trips: what comes on an edge is joined to what came: the closure of Of, walked. The library's sort of numbers, at this program: the kit's contract laid in plain words, and its form for own rows. loops: sorted, walked. loops: round, walked. -/
import Derived.Test.YteebpnbdihcfmaaDoorJ06
import Derived.Test.YteebpnbdihcfmaaDoorJ10
import Derived.Test.YteebpnbdihcfmaaDoorJ11
import Derived.Test.YteebpnbdihcfmaaDoorJ02
import Derived.Shelf.Sort.Plain
import Derived.Sort.OwnSortedInts
import Derived.Shelf.Small.Bits
set_option linter.unusedVariables false
set_option linter.unusedSimpArgs false
set_option maxRecDepth 100000
set_option maxHeartbeats 20000000
namespace Go.Proofs.YteebpnbdihcfmaaDoor
open Go.RowKit
section
def noSp : PSpan := ⟨1, 0⟩
def comeP (c : PIns) (lh : PSpan × PSpan) (r : List PSpan) : PSpan × PSpan := (joinP lh.1 (spAt r c.a), joinP lh.2 (spAt r c.b))
/-- an edge that enters a loop: what comes on it -/
def tripE (m : PMod) (f : PFunc) (inn : List (List PSpan)) (l : PLoop) (lh : PSpan × PSpan) (e : Nat × Int) : PSpan × PSpan :=
 if e.2 ≠ (l.head : Int) ∨ l.members.contains (e.1 : Int) = true ∨ inn.getD e.1 [] = [] then lh else
 match wayP m f e.1 e.2 (inn.getD e.1 []) with
 | some out => comeP (f.code.getD l.head default) lh out
 | none => lh
def tripB (f : PFunc) (l : PLoop) : PSpan × PSpan := if l.head = 0 then comeP (f.code.getD l.head default) (noSp, noSp) (beginP f) else (noSp, noSp)
def tripTo (m : PMod) (f : PFunc) (inn : List (List PSpan)) (l : PLoop) (es : List (Nat × Int)) : PSpan × PSpan := es.foldl (tripE m f inn l) (tripB f l)
def lenLH (lh : PSpan × PSpan) : Int := if lh.1.lo ≤ lh.1.hi then lengthP lh.1 lh.2 else 0
noncomputable def tripN (m : PMod) (f : PFunc) (inn : List (List PSpan)) (l : PLoop) : Int := lenLH (tripTo m f inn l (edgesL f))
/-- the rounds of each loop, or what is wrong -/
noncomputable def tripsP (m : PMod) (f : PFunc) (inn : List (List PSpan)) : List Int × Int := if (findP f).2.1 = 0 then ((findP f).1.map (tripN m f inn), 0) else ([], (findP f).2.1)
def cntF (nm : ByteArray) (lo hi : Int) : PFunc := ⟨nm, [], 2, 0, [⟨1, 0, 0, 0, lo⟩, ⟨1, 1, 0, 0, hi⟩, ⟨17, 0, 1, 0, 4⟩, ⟨18, 0, 0, 0, 2⟩, ⟨0, 0, 0, 0, 0⟩]⟩
def cntM (nm : ByteArray) (lo hi : Int) : PMod := ⟨[], [cntF nm lo hi]⟩
section
variable (nm : ByteArray) (lo hi : Int)
theorem cnt_next : nextP (cntF nm lo hi) 0 = [1] ∧ nextP (cntF nm lo hi) 1 = [2] ∧ nextP (cntF nm lo hi) 2 = [3, 4] ∧ nextP (cntF nm lo hi) 3 = [2] ∧ nextP (cntF nm lo hi) 4 = [] := ⟨rfl, rfl, rfl, rfl, rfl⟩
theorem cnt_rch : Rch (cntF nm lo hi) 0 ∧ Rch (cntF nm lo hi) 1 ∧ Rch (cntF nm lo hi) 2 ∧ Rch (cntF nm lo hi) 3 ∧ Rch (cntF nm lo hi) 4 := by
 obtain ⟨n0, n1, n2, n3, n4⟩ := cnt_next nm lo hi;have r0 : Rch (cntF nm lo hi) 0 := .zero;have r1 : Rch (cntF nm lo hi) 1 := .step 0 1 r0 (by rw [n0]; simp);have r2 : Rch (cntF nm lo hi) 2 := .step 1 2 r1 (by rw [n1]; simp);exact ⟨r0, r1, r2, .step 2 3 r2 (by rw [n2]; simp), .step 2 4 r2 (by rw [n2]; simp)⟩
theorem cnt_edges : edgesL (cntF nm lo hi) = [(0, 1), (1, 2), (2, 3), (2, 4), (3, 2)] := by
 obtain ⟨n0, n1, n2, n3, n4⟩ := cnt_next nm lo hi;obtain ⟨r0, r1, r2, r3, r4⟩ := cnt_rch nm lo hi;have hl : (cntF nm lo hi).code.length = 5 := rfl;have key : ∀ k, k < 5 → Rch (cntF nm lo hi) k → (reachP (cntF nm lo hi)).getD k false = true := fun k hk h => by
  have := (reachP_at (cntF nm lo hi) k (by rw [hl]; exact hk)).2 h;rw [List.getD_eq_getElem?_getD, this]; rfl
 unfold edgesL;rw [hl, edgesTo_succ, edgesTo_succ, edgesTo_succ, edgesTo_succ, edgesTo_succ, key 0 (by omega) r0, key 1 (by omega) r1, key 2 (by omega) r2, key 3 (by omega) r3, key 4 (by omega) r4, n0, n1, n2, n3, n4];rfl
theorem cnt_edge (u v : Nat) : EdgeP (cntF nm lo hi) u v ↔ (u = 0 ∧ v = 1) ∨ (u = 1 ∧ v = 2) ∨ (u = 2 ∧ v = 3) ∨ (u = 2 ∧ v = 4) ∨ (u = 3 ∧ v = 2) := by
 have h := edges_mem (cntF nm lo hi) u v;rw [cnt_edges] at h;have hl : (cntF nm lo hi).code.length = 5 := rfl;rw [hl] at h;constructor
 ·intro he;have hu : u < 5 := by
   have := Rch.lt (by rw [hl]; omega) he.1;rw [hl] at this; exact this
  have := h.2 ⟨hu, he⟩;simp at this;omega
 ·intro he;refine (h.1 ?_).2;simp;omega
theorem cnt_dom : domB (cntF nm lo hi) 1 0 = false ∧ domB (cntF nm lo hi) 2 1 = false ∧ domB (cntF nm lo hi) 3 2 = false ∧ domB (cntF nm lo hi) 4 2 = false ∧ domB (cntF nm lo hi) 2 3 = true := by
 have hE := cnt_edge nm lo hi;have w1 : ∀ x, x ≠ 1 → Wx (EdgeP (cntF nm lo hi)) x 0 1 := fun x hx => .step 0 1 .refl ((hE 0 1).2 (by omega)) (by omega);have w2 : ∀ x, x ≠ 1 → x ≠ 2 → Wx (EdgeP (cntF nm lo hi)) x 0 2 := fun x hx hy => .step 1 2 (w1 x hx) ((hE 1 2).2 (by omega)) (by omega);unfold domB;refine ⟨?_, ?_, ?_, ?_, ?_⟩
 ·simp only [decide_eq_false_iff_not, Classical.not_not]; exact ⟨by omega, .refl⟩
 ·simp only [decide_eq_false_iff_not, Classical.not_not]; exact ⟨by omega, w1 2 (by omega)⟩
 ·simp only [decide_eq_false_iff_not, Classical.not_not]; exact ⟨by omega, w2 3 (by omega) (by omega)⟩
 ·simp only [decide_eq_false_iff_not, Classical.not_not]; exact ⟨by omega, w2 4 (by omega) (by omega)⟩
 ·simp only [decide_eq_true_eq];rintro ⟨_, hw⟩;have key : ∀ y, Wx (EdgeP (cntF nm lo hi)) 2 0 y → y = 0 ∨ y = 1 := fun y h => by
   induction h with
   | refl => exact .inl rfl
   | step u w _ he hx ih => have := (hE u w).1 he; omega
  have := key 3 hw;omega
theorem cnt_GL (c u : Nat) : GL (cntF nm lo hi) c u = if c = 0 then (if u = 1 then [0] else if u = 2 then [1, 3] else if u = 3 then [2] else if u = 4 then [2] else []) else
 if c = 1 then (if u = 0 then [1] else if u = 1 then [2] else if u = 2 then [3, 4] else []) else if u = 2 then [3] else [] := by
 obtain ⟨d1, d2, d3, d4, d5⟩ := cnt_dom nm lo hi;unfold GL grP fromL;rw [cnt_edges];by_cases h0 : c = 0
 ·rw [if_pos h0, if_pos h0];by_cases u1 : u = 1
  ·subst u1; rfl
  by_cases u2 : u = 2
  ·subst u2; rfl
  by_cases u3 : u = 3
  ·subst u3; rfl
  by_cases u4 : u = 4
  ·subst u4; rfl
  rw [if_neg u1, if_neg u2, if_neg u3, if_neg u4];have e1 : ((1 : Int) == (u : Int)) = false := by simp; omega
  have e2 : ((2 : Int) == (u : Int)) = false := by simp; omega
  have e3 : ((3 : Int) == (u : Int)) = false := by simp; omega
  have e4 : ((4 : Int) == (u : Int)) = false := by simp; omega
  simp only [List.filter_cons, List.filter_nil, List.map_nil, e1, e2, e3, e4, Bool.false_eq_true, if_false]
 ·rw [if_neg h0, if_neg h0];by_cases h1 : c = 1
  ·rw [if_pos h1, if_pos h1];simp only [List.filter_cons, List.filter_nil, Int.toNat_one, show (2 : Int).toNat = 2 from rfl, show (3 : Int).toNat = 3 from rfl, show (4 : Int).toNat = 4 from rfl, d1, d2, d3, d4, d5, Bool.not_false, Bool.not_true, Bool.and_true, Bool.and_false];by_cases u0 : u = 0
   ·subst u0; rfl
   by_cases u1 : u = 1
   ·subst u1; rfl
   by_cases u2 : u = 2
   ·subst u2; rfl
   rw [if_neg u0, if_neg u1, if_neg u2];have e : ∀ k : Nat, k ≠ u → (k == u) = false := fun k hk => by simpa using hk
   simp [e 0 (by omega), e 1 (by omega), e 2 (by omega)]
  ·rw [if_neg h1, if_neg h1];simp only [List.filter_cons, List.filter_nil, Int.toNat_one, show (2 : Int).toNat = 2 from rfl, show (3 : Int).toNat = 3 from rfl, show (4 : Int).toNat = 4 from rfl, d1, d2, d3, d4, d5, Bool.and_true, Bool.and_false];by_cases u2 : u = 2
   ·subst u2; rfl
   rw [if_neg u2];have e : ((2 : Int) == (u : Int)) = false := by simp; omega
   simp [e]
theorem cnt_comes (v : Nat) : comesB (GL (cntF nm lo hi)) v = false := by
 apply comesB_false;have key : ∀ y, Cl (nxG (GL (cntF nm lo hi)) 1) (fun _ => false) (GL (cntF nm lo hi) 1 v) y → (v : Int) < y := fun y h => by
  have step : ∀ (u : Nat) (z : Int), z ∈ GL (cntF nm lo hi) 1 u → (u : Int) < z := fun u z hz => by
   rw [cnt_GL] at hz;simp only [show ¬ ((1 : Nat) = 0) by omega, if_false, if_true] at hz;by_cases u0 : u = 0
   ·rw [if_pos u0] at hz; simp at hz; omega
   by_cases u1 : u = 1
   ·rw [if_neg u0, if_pos u1] at hz; simp at hz; omega
   by_cases u2 : u = 2
   ·rw [if_neg u0, if_neg u1, if_pos u2] at hz; simp at hz; omega
   rw [if_neg u0, if_neg u1, if_neg u2] at hz;simp at hz
  induction h with
  | start x h => exact step v x h
  | step x y _ _ h3 ih => have := step x.toNat y h3; omega
 intro h;have := key _ h;omega
theorem cnt_inB : ∀ v : Int, inB_ (GL (cntF nm lo hi)) 2 v = (decide (v = 2) || decide (v = 3)) := by
 intro v;have key : Cl (nxG (GL (cntF nm lo hi)) 0) (fun x => decide (x = ((2 : Nat) : Int))) (GL (cntF nm lo hi) 2 2) v ↔ v = 2 ∨ v = 3 := by
  have g2 : GL (cntF nm lo hi) 2 2 = [3] := by rw [cnt_GL]; rfl
  have g3 : GL (cntF nm lo hi) 0 3 = [2] := by rw [cnt_GL]; rfl
  rw [g2];constructor
  ·intro h
   induction h with
   | start x h => simp at h; exact .inr h
   | step x y _ hx hy ih =>
    rcases ih with rfl | rfl
    ·simp at hx
    ·unfold nxG at hy;rw [show (3 : Int).toNat = 3 from rfl, g3] at hy;simp at hy; exact .inl hy
  ·have c3 : Cl (nxG (GL (cntF nm lo hi)) 0) (fun x => decide (x = ((2 : Nat) : Int))) [3] 3 := .start 3 (by simp);rintro (rfl | rfl)
   ·exact .step 3 2 c3 (by simp) (by unfold nxG; rw [show (3 : Int).toNat = 3 from rfl, g3]; simp)
   ·exact c3
 unfold inB_;by_cases h2 : v = 2
 ·subst h2; simp
 ·by_cases h3 : v = 3
  ·subst h3; simpa using key.2 (.inr rfl)
  ·have : ¬ Cl (nxG (GL (cntF nm lo hi)) 0) (fun x => decide (x = ((2 : Nat) : Int))) (GL (cntF nm lo hi) 2 2) v := fun h => by rcases key.1 h with h | h <;> contradiction
   simpa [h2, h3] using this
theorem cnt_find : findP (cntF nm lo hi) = ([⟨2, -1, [2, 3], [3]⟩], 0, 0) := by
 have hl : (cntF nm lo hi).code.length = 5 := rfl;have hh : headsP (GL (cntF nm lo hi)) 5 = [2] := by
  unfold headsP pickN;have e : (fun k : Nat => decide (GL (cntF nm lo hi) 2 ((k : Int)).toNat ≠ [])) = fun k => decide (k = 2) := by
   funext k;rw [Int.toNat_natCast, cnt_GL];by_cases h : k = 2
   ·subst h; simp
   ·simp [h]
  rw [e]; rfl
 have hm : pickN 5 (inB_ (GL (cntF nm lo hi)) 2) = [2, 3] := by
  unfold pickN;have e : (fun k : Nat => inB_ (GL (cntF nm lo hi)) 2 (k : Int)) = fun k => (decide (k = 2) || decide (k = 3)) := by
   funext k;rw [cnt_inB];congr 1
   ·simp; omega
   ·simp; omega
  rw [e]; rfl
 have hp : loopP (cntF nm lo hi) 2 = ⟨2, -1, [2, 3], [3]⟩ := by
  unfold loopP;rw [hl, hm, cnt_GL];rfl
 have hL : loopsL (cntF nm lo hi) = [⟨2, -1, [2, 3], [3]⟩] := by
  unfold loopsL;rw [hl, hh];show [loopP (cntF nm lo hi) 2] = _;rw [hp]
 unfold findP;rw [hl, firstI_none 5 _ (fun i _ => cnt_comes nm lo hi i), hL, if_neg (by omega)];rfl
/-- what the rounds keep: at the first instruction stands what stood there, at the second one nothing as long as the first one is marked, then just the one number -/
def CInv (lo : Int) (s : PBS) : Prop := s.inn.length = 5 ∧ s.mrk.length = 5 ∧ s.inn.getD 0 [] = [⟨0, 0⟩, ⟨0, 0⟩] ∧ (s.inn.getD 1 [] = [⟨lo, lo⟩, ⟨0, 0⟩] ∨ (s.inn.getD 1 [] = [] ∧ s.mrk.getD 0 false = true))
theorem getDL_set {α : Type} (l : List α) (i j : Nat) (a d : α) : (l.set i a).getD j d = if j = i ∧ i < l.length then a else l.getD j d := by
 simp only [List.getD_eq_getElem?_getD];by_cases e : j = i
 ·subst e;by_cases h : j < l.length
  ·rw [if_pos ⟨rfl, h⟩, List.getElem?_set_self h]; rfl
  ·rw [if_neg (fun q => h q.2), List.set_eq_of_length_le (by omega)]
 ·rw [if_neg (fun q => e q.1), List.getElem?_set_ne (by omega)]
theorem merge_other (thr : List Int) (s : PBS) (tt : Nat) (next : List PSpan) (j : Nat) (h : j ≠ tt) : (mergeP thr s tt next).inn.getD j [] = s.inn.getD j [] ∧ (mergeP thr s tt next).mrk.getD j false = s.mrk.getD j false ∧ (mergeP thr s tt next).inn.length = s.inn.length ∧ (mergeP thr s tt next).mrk.length = s.mrk.length := by
 unfold mergeP;split
 ·refine ⟨?_, ?_, by simp, by simp⟩
  ·rw [getDL_set, if_neg (fun q => h q.1)]
  ·rw [getDL_set, if_neg (fun q => h q.1)]
 ·split
  ·refine ⟨?_, ?_, by simp, by simp⟩
   ·rw [getDL_set, if_neg (fun q => h q.1)]
   ·rw [getDL_set, if_neg (fun q => h q.1)]
  ·exact ⟨rfl, rfl, rfl, rfl⟩
theorem cnt_way0 : wayP (cntM nm lo hi) (cntF nm lo hi) 0 1 [⟨0, 0⟩, ⟨0, 0⟩] = some [⟨lo, lo⟩, ⟨0, 0⟩] := rfl
theorem cnt_way1 : wayP (cntM nm lo hi) (cntF nm lo hi) 1 2 [⟨lo, lo⟩, ⟨0, 0⟩] = some [⟨lo, lo⟩, ⟨hi, hi⟩] := rfl
theorem same_some (lo : Int) : someB [⟨lo, lo⟩, ⟨0, 0⟩] [⟨lo, lo⟩, ⟨0, 0⟩] = false := by
 have g : ∀ x : Int, growB ⟨x, x⟩ ⟨x, x⟩ = false := fun x => by
  unfold growB eqP joinP;simp
 show (growB ⟨lo, lo⟩ ⟨lo, lo⟩ || (growB ⟨0, 0⟩ ⟨0, 0⟩ || false)) = false;rw [g, g]; rfl
theorem cnt_step (s : PBS) (k : Nat) (hk : k < 5) (h : CInv lo s) : CInv lo (stepS (cntM nm lo hi) (cntF nm lo hi) s k) ∧ (k = 0 → (stepS (cntM nm lo hi) (cntF nm lo hi) s k).inn.getD 1 [] = [⟨lo, lo⟩, ⟨0, 0⟩]) := by
 obtain ⟨n0, n1, n2, n3, n4⟩ := cnt_next nm lo hi;obtain ⟨l1, l2, i0, i1⟩ := h;unfold stepS;by_cases hm : s.mrk.getD k false = true
 ·rw [if_pos hm];by_cases hk0 : k = 0
  ·subst hk0;have goal : (wayS (cntM nm lo hi) (cntF nm lo hi) 0 (s.inn.getD 0 []) { s with mrk := s.mrk.set 0 false } 1).inn.getD 1 [] = [⟨lo, lo⟩, ⟨0, 0⟩] ∧ (wayS (cntM nm lo hi) (cntF nm lo hi) 0 (s.inn.getD 0 []) { s with mrk := s.mrk.set 0 false } 1).inn.getD 0 [] = [⟨0, 0⟩, ⟨0, 0⟩] ∧ (wayS (cntM nm lo hi) (cntF nm lo hi) 0 (s.inn.getD 0 []) { s with mrk := s.mrk.set 0 false } 1).inn.length = 5 ∧ (wayS (cntM nm lo hi) (cntF nm lo hi) 0 (s.inn.getD 0 []) { s with mrk := s.mrk.set 0 false } 1).mrk.length = 5 := by
    unfold wayS;rw [i0, cnt_way0];dsimp only;show (mergeP [] { s with mrk := s.mrk.set 0 false } 1 [⟨lo, lo⟩, ⟨0, 0⟩]).inn.getD 1 [] = _ ∧ (mergeP [] { s with mrk := s.mrk.set 0 false } 1 [⟨lo, lo⟩, ⟨0, 0⟩]).inn.getD 0 [] = _ ∧ (mergeP [] { s with mrk := s.mrk.set 0 false } 1 [⟨lo, lo⟩, ⟨0, 0⟩]).inn.length = 5 ∧ (mergeP [] { s with mrk := s.mrk.set 0 false } 1 [⟨lo, lo⟩, ⟨0, 0⟩]).mrk.length = 5;obtain ⟨m1, m2, m3, m4⟩ := merge_other [] { s with mrk := s.mrk.set 0 false } 1 [⟨lo, lo⟩, ⟨0, 0⟩] 0 (by omega);refine ⟨?_, by rw [m1]; exact i0, by rw [m3]; exact l1, by rw [m4]; simpa using l2⟩;unfold mergeP;dsimp only;rcases i1 with i1 | ⟨i1, _⟩
    ·rw [i1, if_neg (by simp), same_some];simpa using i1
    ·rw [i1, if_pos rfl];dsimp only;rw [getDL_set, if_pos ⟨rfl, by omega⟩]
   rw [n0, List.foldl_cons, List.foldl_nil];exact ⟨⟨goal.2.2.1, goal.2.2.2, goal.2.1, .inl goal.1⟩, fun _ => goal.1⟩
  ·refine ⟨?_, fun e => absurd e hk0⟩;have key : ∀ (ts : List Int) (q : PBS), (∀ t ∈ ts, t.toNat ≠ 0 ∧ t.toNat ≠ 1) → CInv lo q → CInv lo (ts.foldl (wayS (cntM nm lo hi) (cntF nm lo hi) k (s.inn.getD k [])) q) := fun ts => by
    induction ts with
    | nil => intro q _ h; exact h
    | cons t ts ih =>
     intro q ht hq;rw [List.foldl_cons];refine ih _ (fun t' h' => ht t' (List.mem_cons_of_mem _ h')) ?_;unfold wayS;split
     ·obtain ⟨q1, q2, q3, q4⟩ := hq;obtain ⟨t0, t1⟩ := ht t (by simp);obtain ⟨a1, a2, a3, a4⟩ := merge_other (cntM nm lo hi).thr q t.toNat _ 0 (Ne.symm t0);obtain ⟨b1, b2, _, _⟩ := merge_other (cntM nm lo hi).thr q t.toNat _ 1 (Ne.symm t1);exact ⟨by rw [a3]; exact q1, by rw [a4]; exact q2, by rw [a1]; exact q3, by rw [b1, a2]; exact q4⟩
     ·exact hq
   refine key _ _ ?_ ⟨l1, by simpa using l2, i0, ?_⟩
   ·obtain rfl | rfl | rfl | rfl : k = 1 ∨ k = 2 ∨ k = 3 ∨ k = 4 := by omega
    ·rw [n1]; decide
    ·rw [n2]; decide
    ·rw [n3]; decide
    ·rw [n4]; decide
   ·dsimp only;rw [getDL_set, if_neg (fun q => hk0 q.1.symm)];exact i1
 ·rw [if_neg hm];refine ⟨⟨l1, l2, i0, i1⟩, fun e => ?_⟩;subst e;rcases i1 with i1 | ⟨_, i2⟩
  ·exact i1
  ·exact absurd i2 hm
theorem cnt_pass (s : PBS) (h : CInv lo s) : CInv lo (passS (cntM nm lo hi) (cntF nm lo hi) s) := by
 have key : ∀ (ks : List Nat) (q : PBS), (∀ k ∈ ks, k < 5) → CInv lo q → CInv lo (ks.foldl (stepS (cntM nm lo hi) (cntF nm lo hi)) q) := fun ks => by
  induction ks with
  | nil => intro q _ h; exact h
  | cons t ts ih => intro q ht hq; rw [List.foldl_cons]; exact ih _ (fun t' h' => ht t' (List.mem_cons_of_mem _ h')) (cnt_step nm lo hi q t (ht t (by simp)) hq).1
 exact key _ s (fun k hk => by simpa [cntF] using hk) h
theorem cnt_runs (s t : PBS) (hr : RunsS (cntM nm lo hi) (cntF nm lo hi) s t) (h : CInv lo s) : t.inn.getD 1 [] = [⟨lo, lo⟩, ⟨0, 0⟩] := by
 induction hr with
 | stop s hs =>
  obtain ⟨l1, l2, i0, i1⟩ := h;rcases i1 with i1 | ⟨_, i2⟩
  ·exact i1
  ·have : s.mrk[0]? = some true := by
    rw [List.getD_eq_getElem?_getD] at i2;rw [List.getElem?_eq_getElem (by omega)] at i2 ⊢;simpa using i2
   have := List.mem_of_getElem? this;rw [List.contains_iff_mem.2 this] at hs;cases hs
 | pass s t _ _ ih => exact ih (cnt_pass nm lo hi s h)
/-- a loop that counts from one number to another one has as many rounds as these are apart -/
theorem cnt_trips (t : PBS) (hr : RunsS (cntM nm lo hi) (cntF nm lo hi) (startS (cntF nm lo hi)) t) : tripsP (cntM nm lo hi) (cntF nm lo hi) t.inn = ([lengthP ⟨lo, lo⟩ ⟨hi, hi⟩], 0) := by
 have h1 := cnt_runs nm lo hi _ t hr ⟨rfl, rfl, rfl, .inr ⟨rfl, rfl⟩⟩;unfold tripsP;rw [cnt_find, if_pos rfl];show ([tripN (cntM nm lo hi) (cntF nm lo hi) t.inn ⟨2, -1, [2, 3], [3]⟩], (0 : Int)) = _;have e : tripTo (cntM nm lo hi) (cntF nm lo hi) t.inn ⟨2, -1, [2, 3], [3]⟩ (edgesL (cntF nm lo hi)) = (⟨lo, lo⟩, ⟨hi, hi⟩) := by
  unfold tripTo;rw [cnt_edges, List.foldl_cons, List.foldl_cons, List.foldl_cons, List.foldl_cons, List.foldl_cons, List.foldl_nil];have b : tripB (cntF nm lo hi) ⟨2, -1, [2, 3], [3]⟩ = (noSp, noSp) := rfl;have e0 : ∀ lh, tripE (cntM nm lo hi) (cntF nm lo hi) t.inn ⟨2, -1, [2, 3], [3]⟩ lh (0, 1) = lh := fun lh => by unfold tripE; rw [if_pos (.inl (by decide))]
  have e2 : ∀ lh, tripE (cntM nm lo hi) (cntF nm lo hi) t.inn ⟨2, -1, [2, 3], [3]⟩ lh (2, 3) = lh := fun lh => by unfold tripE; rw [if_pos (.inl (by decide))]
  have e3 : ∀ lh, tripE (cntM nm lo hi) (cntF nm lo hi) t.inn ⟨2, -1, [2, 3], [3]⟩ lh (2, 4) = lh := fun lh => by unfold tripE; rw [if_pos (.inl (by decide))]
  have e4 : ∀ lh, tripE (cntM nm lo hi) (cntF nm lo hi) t.inn ⟨2, -1, [2, 3], [3]⟩ lh (3, 2) = lh := fun lh => by unfold tripE; rw [if_pos (.inr (.inl (by decide)))]
  rw [b, e0, e2, e3, e4];unfold tripE;dsimp only;rw [h1, if_neg (by simp), cnt_way1];rfl
 unfold tripN;rw [e];unfold lenLH;rw [if_pos (Int.le_refl _)]
end
end
def spV2 (p : PSpan) : List Value := [.int .i64 p.lo, .int .i64 p.hi]
theorem chgTwo (W : World) (a b : Nat) (u v x y : Value) : Chg (fun k => k = a ∨ k = b) W ((((W.setCell ⟨a, 0, none⟩ u).setCell ⟨a, 1, none⟩ v).setCell ⟨b, 0, none⟩ x).setCell ⟨b, 1, none⟩ y) :=
 Chg.setCell (Chg.setCell (Chg.setCell (Chg.setCell (Chg.refl _ _) (.inl (.inl rfl)) _) (.inl (.inl rfl)) _) (.inl (.inr rfl)) _) (.inl (.inr rfl)) _
theorem come_any (lb cb hb : Nat) (low high : PSpan) (x : PIns) (b n c : Nat) (r : List PSpan) (w : World) (ol : Own w lb (spV2 low)) (oh : Own w hb (spV2 high)) (oc : Own w cb [.int .i64 x.op, .int .i64 x.a, .int .i64 x.b, .int .i64 x.c, .int .i64 x.n]) (hr : SpRow w b n c r)
 (ha0 : 0 ≤ x.a) (ha1 : x.a < (n : Int)) (hb0 : 0 ≤ x.b) (hb1 : x.b < (n : Int)) (hn : n ≤ 64) (hne : lb ≠ hb) :
 Calls Tryd.prog 9 #[.slice (some ⟨b, 0, none⟩) n c, .pointer (some ⟨lb, 0, none⟩), .pointer (some ⟨cb, 0, none⟩), .pointer (some ⟨hb, 0, none⟩)] w fun e w' => e = .returned (.tuple #[]) ∧ Own w' lb (spV2 (comeP x (low, high) r).1) ∧ Own w' hb (spV2 (comeP x (low, high) r).2) ∧ Chg (fun k => k = lb ∨ k = hb) w w' := by
 obtain ⟨op, xa, xb, xc, xn⟩ := x;dsimp only at *;obtain ⟨ka, rfl⟩ := Int.eq_ofNat_of_zero_le ha0;obtain ⟨kb, rfl⟩ := Int.eq_ofNat_of_zero_le hb0;have hka : ka < n := by omega
 have hkb : kb < n := by omega
 obtain ⟨a0, a1, -, -⟩ := hr.cells hka;obtain ⟨b0, b1, -, -⟩ := hr.cells hkb;have HOL := Lib.hid ol; have HOH := Lib.hid oh;have l2 := own2 ol;have h2 := own2 oh;have c5 := own5 oc;have hbl := hr.lt;have HJ1 := Lib.hid (fun w => join_is low (r.getD ka default) w);have HJ2 := Lib.hid (fun w => join_is high (r.getD kb default) w);unfold comeP spAt;dsimp only;rw [Int.toNat_natCast, Int.toNat_natCast];generalize joinP low (r.getD ka default) = j1 at *;generalize joinP high (r.getD kb default) = j2 at *;obtain ⟨j1l, j1h⟩ := j1;obtain ⟨j2l, j2h⟩ := j2;generalize r.getD ka default = pa at *;generalize r.getD kb default = pb at *;obtain ⟨pal, pah⟩ := pa;obtain ⟨pbl, pbh⟩ := pb;obtain ⟨ll, lh⟩ := low;obtain ⟨hl, hh⟩ := high;unfold spV2 at *;dsimp only at *;clear ol oh oc hr;have hne2 : hb ≠ lb := fun e => hne e.symm;go_enter Tryd.func9, Tryd.ntmps9;refine wp_below_tail 14 (by kernel_rfl) (by kernel_rfl) (fun T F hF hall => ?_); simp only [List.take_succ_cons, List.take_zero, List.drop_succ_cons, List.drop_zero]; have hFc := fun t => (bcell (hF t)).1; have hFf := fun t => (bcell (hF t)).2; have hFs := fun t => (hF t).size; have hNE : Nonempty T := (hall _ (Below.refl _ _)).elim fun t _ => ⟨t⟩; repeat (refine WQ_step (fun K hK => ?_); go_simp; refine hK _ ?_; clear hK K)
 (refine WQ_step (fun K hK => ?_); go_simp; refine ⟨_, fun t => calls_family (hF t) hall (HJ1.out (F t)), hK _ ?_⟩; clear hK K)
 repeat (refine WQ_step (fun K hK => ?_); go_simp; refine hK _ ?_; clear hK K)
 (refine WQ_step (fun K hK => ?_); go_simp; refine ⟨_, fun t => calls_family (hF t) hall (HJ2.out (F t)), hK _ ?_⟩; clear hK K)
 repeat (refine WQ_step (fun K hK => ?_); go_simp; refine hK _ ?_; clear hK K)
 refine WQ_nil (fun t => ?_);have hft := hF t;go_wp2
 go_end0
 go_light;have h1 := (((HOL.out.below hft).set 0 (.int .i64 j1l) (by simp)).set 1 (.int .i64 j1h) (by simp))
 have h2 := (HOH.out.below hft)
 refine ⟨rfl, ?_, ?_, (Chg.of hft).trans (chgTwo _ _ _ _ _ _ _)⟩
 ·exact (h1.setOther (p := ⟨hb, 0, none⟩) _ hne2).setOther (p := ⟨hb, 1, none⟩) _ hne2
 ·exact (((h2.setOther (p := ⟨lb, 0, none⟩) _ hne).setOther (p := ⟨lb, 1, none⟩) _ hne).set 0 (.int .i64 j2l) (by simp)).set 1 (.int .i64 j2h) (by simp)
end Go.Proofs.YteebpnbdihcfmaaDoor
namespace Go.Proofs.YteebpnbdihcfmaaDoor
open Go.RowKit
open Go.Shelf Go.Sort
def Tryd.lays191_ren : Go.Shelf.Ren := ⟨fun | 191 => 48 | 189 => 62 | 125 => 68 | 257 => 67 | 128 => 78 | 129 => 79 | 294 => 69 | 295 => 70 | 296 => 71 | 297 => 72 | 298 => 73 | 299 => 74 | 216 => 75 | 300 => 76 | 301 => 77 | 328 => 80 | 329 => 81 | 330 => 82 | 331 => 83 | 332 => 84 | 215 => 85 | 343 => 86 | n => n, fun | 28 => 47 | 0 => 0 | 3 => 3 | 46 => 141 | 51 => 150 | 53 => 32 | 4 => 4 | 183 => 144 | 182 => 143 | 131 => 82 | 5 => 5 | 9 => 9 | 218 => 152 | 222 => 156 | 228 => 158 | 229 => 159 | n => n, fun | n => n⟩
theorem Tryd.lays191 : Go.Proofs.Lays.n191 Tryd.prog Tryd.lays191_ren := {
 mixed := by kernel_rfl
 f125 := Tryd.func68.trans (congrArg some (by kernel_rfl))
 f128 := Tryd.func78.trans (congrArg some (by kernel_rfl))
 f129 := Tryd.func79.trans (congrArg some (by kernel_rfl))
 f189 := Tryd.func62.trans (congrArg some (by kernel_rfl))
 f191 := Tryd.func48.trans (congrArg some (by kernel_rfl))
 f215 := Tryd.func85.trans (congrArg some (by kernel_rfl))
 f216 := Tryd.func75.trans (congrArg some (by kernel_rfl))
 f257 := Tryd.func67.trans (congrArg some (by kernel_rfl))
 f294 := Tryd.func69.trans (congrArg some (by kernel_rfl))
 f295 := Tryd.func70.trans (congrArg some (by kernel_rfl))
 f296 := Tryd.func71.trans (congrArg some (by kernel_rfl))
 f297 := Tryd.func72.trans (congrArg some (by kernel_rfl))
 f298 := Tryd.func73.trans (congrArg some (by kernel_rfl))
 f299 := Tryd.func74.trans (congrArg some (by kernel_rfl))
 f300 := Tryd.func76.trans (congrArg some (by kernel_rfl))
 f301 := Tryd.func77.trans (congrArg some (by kernel_rfl))
 f328 := Tryd.func80.trans (congrArg some (by kernel_rfl))
 f329 := Tryd.func81.trans (congrArg some (by kernel_rfl))
 f330 := Tryd.func82.trans (congrArg some (by kernel_rfl))
 f331 := Tryd.func83.trans (congrArg some (by kernel_rfl))
 f332 := Tryd.func84.trans (congrArg some (by kernel_rfl))
 f343 := Tryd.func86.trans (congrArg some (by kernel_rfl))
 t0 := Tryd.underlying0
 a0 := Tryd.isAgg0
 z0 := Tryd.sizeOf0
 v0 := Tryd.zeroValue0
 t3 := Tryd.underlying3
 a3 := Tryd.isAgg3
 z3 := Tryd.sizeOf3
 v3 := Tryd.zeroValue3
 t4 := Tryd.underlying4
 a4 := Tryd.isAgg4
 z4 := Tryd.sizeOf4
 v4 := Tryd.zeroValue4
 t5 := Tryd.underlying5
 a5 := Tryd.isAgg5
 z5 := Tryd.sizeOf5
 v5 := Tryd.zeroValue5
 t9 := Tryd.underlying9
 a9 := Tryd.isAgg9
 z9 := Tryd.sizeOf9
 v9 := Tryd.zeroValue9
 t28 := Tryd.underlying47
 a28 := Tryd.isAgg47
 z28 := Tryd.sizeOf47
 v28 := Tryd.zeroValue47
 t46 := Tryd.underlying141
 a46 := Tryd.isAgg141
 z46 := Tryd.sizeOf141
 v46 := Tryd.zeroValue141
 t51 := Tryd.underlying150
 a51 := Tryd.isAgg150
 z51 := Tryd.sizeOf150
 v51 := Tryd.zeroValue150
 t53 := Tryd.underlying32
 a53 := Tryd.isAgg32
 z53 := Tryd.sizeOf32
 v53 := Tryd.zeroValue32
 t131 := Tryd.underlying82
 a131 := Tryd.isAgg82
 z131 := Tryd.sizeOf82
 v131 := Tryd.zeroValue82
 t182 := Tryd.underlying143
 a182 := Tryd.isAgg143
 z182 := Tryd.sizeOf143
 v182 := Tryd.zeroValue143
 t183 := Tryd.underlying144
 a183 := Tryd.isAgg144
 z183 := Tryd.sizeOf144
 v183 := Tryd.zeroValue144
 t218 := Tryd.underlying152
 a218 := Tryd.isAgg152
 z218 := Tryd.sizeOf152
 v218 := Tryd.zeroValue152
 t222 := Tryd.underlying156
 a222 := Tryd.isAgg156
 z222 := Tryd.sizeOf156
 v222 := Tryd.zeroValue156
 t228 := Tryd.underlying158
 a228 := Tryd.isAgg158
 z228 := Tryd.sizeOf158
 v228 := Tryd.zeroValue158
 t229 := Tryd.underlying159
 a229 := Tryd.isAgg159
 z229 := Tryd.sizeOf159
 v229 := Tryd.zeroValue159 }
def Tryd.lays125_ren : Go.Shelf.Ren := ⟨fun | 125 => 68 | 128 => 78 | 129 => 79 | n => n, fun | 46 => 141 | 3 => 3 | 51 => 150 | 53 => 32 | 4 => 4 | 5 => 5 | 9 => 9 | n => n, fun | n => n⟩
theorem Tryd.lays125 : Go.Proofs.Lays.n125 Tryd.prog Tryd.lays125_ren := {
 mixed := by kernel_rfl
 f125 := Tryd.func68.trans (congrArg some (by kernel_rfl))
 f128 := Tryd.func78.trans (congrArg some (by kernel_rfl))
 f129 := Tryd.func79.trans (congrArg some (by kernel_rfl))
 t3 := Tryd.underlying3
 a3 := Tryd.isAgg3
 z3 := Tryd.sizeOf3
 v3 := Tryd.zeroValue3
 t4 := Tryd.underlying4
 a4 := Tryd.isAgg4
 z4 := Tryd.sizeOf4
 v4 := Tryd.zeroValue4
 t5 := Tryd.underlying5
 a5 := Tryd.isAgg5
 z5 := Tryd.sizeOf5
 v5 := Tryd.zeroValue5
 t9 := Tryd.underlying9
 a9 := Tryd.isAgg9
 z9 := Tryd.sizeOf9
 v9 := Tryd.zeroValue9
 t46 := Tryd.underlying141
 a46 := Tryd.isAgg141
 z46 := Tryd.sizeOf141
 v46 := Tryd.zeroValue141
 t51 := Tryd.underlying150
 a51 := Tryd.isAgg150
 z51 := Tryd.sizeOf150
 v51 := Tryd.zeroValue150
 t53 := Tryd.underlying32
 a53 := Tryd.isAgg32
 z53 := Tryd.sizeOf32
 v53 := Tryd.zeroValue32 }
theorem insSort_nil (p : Option Addr) (cap : Nat) (w : World) :
 Calls Tryd.prog 69 #[.slice p 0 cap, .int .i64 0, .int .i64 0] w fun e w' => e = .returned (.tuple #[]) ∧ w' = w := by
 go_enter Tryd.func69, Tryd.ntmps69;go_wp2;refine wp_loop_rounds 1 ?_;rw [rounds_succ];go_wp2
 go_end0
 exact ⟨rfl, rfl⟩
theorem pdqSort_nil (p : Option Addr) (cap : Nat) (w : World) :
 Calls Tryd.prog 67 #[.slice p 0 cap, .int .i64 0, .int .i64 0, .int .i64 0] w fun e w' => e = .returned (.tuple #[]) ∧ w' = w := by
 go_enter Tryd.func67, Tryd.ntmps67;go_wp2;refine wp_loop_rounds 1 ?_;rw [rounds_succ];go_wp2_with (first | (go_at_call 69; refine (insSort_nil p cap _).mono ?_; rintro e w' ⟨rfl, rfl⟩))
 refine bodyPost_ret (results_none rfl _ _ _) rfl ?_;exact ⟨rfl, rfl⟩
theorem slSort_nil (p : Option Addr) (cap : Nat) (w : World) :
 Calls Tryd.prog 62 #[.slice p 0 cap] w fun e w' => e = .returned (.tuple #[]) ∧ w' = w := by
 have hLen : ∀ w, Calls Tryd.prog 68 #[.int .u64 0] w fun e w' => e = .returned (.int .i64 0) ∧ w' = w := fun w => Any.bits_Len Tryd.lays125 0 w (by omega) (by omega);go_enter Tryd.func62, Tryd.ntmps62;go_wp2_with (first
  | (go_at_call 68; refine (hLen _).mono ?_; rintro e w' ⟨rfl, rfl⟩)
  | (go_at_call 67; refine (pdqSort_nil p cap _).mono ?_; rintro e w' ⟨rfl, rfl⟩))
 go_end0
 exact ⟨rfl, rfl⟩
theorem ints_nil (p : Option Addr) (cap : Nat) (w : World) :
 Calls Tryd.prog 48 #[.slice p 0 cap] w fun e w' => e = .returned (.tuple #[]) ∧ w' = w := by
 go_enter Tryd.func48, Tryd.ntmps48;go_wp2_with (first | (go_at_call 62; refine (slSort_nil p cap _).mono ?_; rintro e w' ⟨rfl, rfl⟩))
 go_end0
 exact ⟨rfl, rfl⟩
/-- sort.Ints of an own row -/
theorem ints_own (v : Value) (l : List Int) (w : World) (hsz : l.length < 4611686018427387904) (h : w.ownsRow 0 3 1 v l.length (Nums l)) :
 Calls Tryd.prog 48 #[v] w fun e w' => e = .returned (.tuple #[]) ∧ w'.ownsRow 0 3 1 v l.length (Nums (l.mergeSort fun x y => decide (x ≤ y))) ∧ Chg (fun k => v.ownBlock = some k) w w' := by
 obtain ⟨h1, h2⟩ := h;rcases h2 with ⟨rfl, h0⟩ | ⟨g, cap, cur, rfl, hb, hh, q1, q2, q3, q4⟩
 ·have e : l = [] := by simpa [Nums] using h0
  subst e;refine (ints_nil none 0 w).mono ?_;rintro e w' ⟨rfl, rfl⟩;exact ⟨rfl, by simpa [Nums] using World.ownsRow_nil w' 0 3 1, Chg.refl _ _⟩
 ·rw [Nat.mul_one] at q4;have hH := holds_of_blockI (ss := l) hh q4;refine (Any.sort_Ints Tryd.lays191 g 0 cap l w hH (Array.getElem?_eq_some_iff.1 hh).1 hsz).mono ?_;rintro e w' ⟨rfl, n, os, rfl⟩;have hl : (l.mergeSort fun x y => decide (x ≤ y)).length = l.length := List.length_mergeSort l;exact ⟨rfl, ownsRow_sortedI hl (Nat.zero_le _) hh q1 q2 (by rw [q3]), chg_grown (grownBy_sortedI _)⟩
end Go.Proofs.YteebpnbdihcfmaaDoor
namespace Go.Proofs.YteebpnbdihcfmaaDoor
open Go.RowKit
theorem pickN_mem {n : Nat} {p : Int → Bool} {x : Int} : x ∈ pickN n p ↔ ∃ k : Nat, x = k ∧ k < n ∧ p x = true := by
 unfold pickN;constructor
 ·intro h;obtain ⟨k, hk, rfl⟩ := List.mem_map.1 h;obtain ⟨h1, h2⟩ := List.mem_filter.1 hk;exact ⟨k, rfl, List.mem_range.1 h1, h2⟩
 ·rintro ⟨k, rfl, h1, h2⟩;exact List.mem_map.2 ⟨k, List.mem_filter.2 ⟨List.mem_range.2 h1, h2⟩, rfl⟩
theorem pickN_lt (n : Nat) (p : Int → Bool) : (pickN n p).Pairwise (· < ·) := by
 unfold pickN;rw [List.pairwise_map];have h : ((List.range n).filter fun k : Nat => p (k : Int)).Pairwise (· < ·) := List.Pairwise.filter _ List.pairwise_lt_range;exact h.imp fun h => Int.ofNat_lt.2 h
/-- two rising lists of the same numbers are one -/
theorem rise_eq : ∀ (a b : List Int), a.Pairwise (· < ·) → b.Pairwise (· < ·) → (∀ x, x ∈ a ↔ x ∈ b) → a = b
 | [], [], _, _, _ => rfl
 | [], y :: b, _, _, h => absurd ((h y).2 (by simp)) (by simp)
 | x :: a, [], _, _, h => absurd ((h x).1 (by simp)) (by simp)
 | x :: a, y :: b, ha, hb, h => by
  rw [List.pairwise_cons] at ha hb;have hxy : x = y := by
   have h1 := (h x).1 (by simp);have h2 := (h y).2 (by simp);rcases List.mem_cons.1 h1 with e | h1
   ·exact e
   ·rcases List.mem_cons.1 h2 with e | h2
    ·exact e.symm
    ·have := ha.1 y h2;have := hb.1 x h1;omega
  subst hxy;refine congrArg _ (rise_eq a b ha.2 hb.2 fun z => ?_);constructor
  ·intro hz;rcases List.mem_cons.1 ((h z).1 (by simp [hz])) with e | h1
   ·have := ha.1 z hz; omega
   ·exact h1
  ·intro hz;rcases List.mem_cons.1 ((h z).2 (by simp [hz])) with e | h1
   ·have := hb.1 z hz; omega
   ·exact h1
theorem sort_pick {n : Nat} {p : Int → Bool} {ss : List Int} (hn : ss.Nodup) (h1 : ∀ x ∈ ss, p x = true) (h2 : ∀ x, p x = true → x ∈ ss) (hp : ∀ x, p x = true → ∃ k : Nat, x = k ∧ k < n) : ss.mergeSort (fun x y => decide (x ≤ y)) = pickN n p := by
 refine rise_eq _ _ ?_ (pickN_lt n p) fun x => ?_
 ·have hs := List.pairwise_mergeSort (le := fun x y : Int => decide (x ≤ y)) (fun a b c h1 h2 => by simp only [decide_eq_true_eq] at *; omega) (fun a b => by simp only [Bool.or_eq_true, decide_eq_true_eq]; omega) ss;have hd : (ss.mergeSort fun x y => decide (x ≤ y)).Nodup := (List.mergeSort_perm ss _).nodup_iff.2 hn;refine (hs.and hd).imp fun {a b} h => ?_;have := of_decide_eq_true h.1;have := h.2;omega
 ·rw [(List.mergeSort_perm ss _).mem_iff, pickN_mem];constructor
  ·intro hx;have h3 := h1 x hx;obtain ⟨k, e, hk⟩ := hp x h3;exact ⟨k, e, hk, h3⟩
  ·rintro ⟨k, _, _, h3⟩;exact h2 x h3
theorem lenI_below {n : Nat} {ss : List Int} (hn : ss.Nodup) (h : ∀ x ∈ ss, ∃ k : Nat, x = k ∧ k < n) : ss.length ≤ n := by
 have h1 := sort_pick (n := n) (p := fun x => decide (x ∈ ss)) hn (fun x hx => by simpa using hx) (fun x hx => by simpa using hx) (fun x hx => h x (by simpa using hx));have h2 := congrArg List.length h1;rw [List.length_mergeSort] at h2;rw [h2];unfold pickN;rw [List.length_map];exact Nat.le_trans (List.length_filter_le _ _) (by simp)
theorem sorted_any (b q n : Nat) (p : Int → Bool) (w : World) (hM : MapAt w b q (setM p)) (hn : n ≤ 1024) (hp : ∀ x, p x = true → ∃ k : Nat, x = k ∧ k < n) :
 Calls Tryd.prog 25 #[.map (some b)] w (FreshI w (pickN n p)) := by
 have hlt := hM.lt;have hpi : ∀ i, ¬ inI i → setM p i = none := fun i hi => by
  unfold setM;cases h : p i with
  | false => rfl
  | true =>
   obtain ⟨k, rfl, hk⟩ := hp i h;exact absurd (inI_nat (by omega)) hi
 obtain ⟨W1, cnt, hrun, hR, hb1, hz1, hcq⟩ := hM.range Tryd.mapU hpi;have HR := Lib.hid hR; clear hR;have HP := Lib.hid hp; clear hp;go_enter Tryd.func25, Tryd.ntmps25;go_upto_region 3 with (fail)
 go_loopg [3] cnt (fun k v3 wr => ∃ (left : Int → Bool) (ss : List Int), Hid (MapRange wr b w.heap.size q (setM p) left k) ∧ ss.Nodup ∧ (∀ x ∈ ss, p x = true ∧ left x = false) ∧ (∀ x, p x = true → x ∈ ss ∨ left x = true) ∧ (∀ x, left x = true → p x = true) ∧ Below w.heap.size w wr ∧ w.heap.size + 1 ≤ wr.heap.size ∧ (∀ j, v3.ownBlock = some j → w.heap.size + 1 ≤ j) ∧ (ss = [] → v3 = .slice none 0 0) ∧ Hid (wr.ownsRow 0 3 1 v3 ss.length (Nums ss)))
 case atStart =>
  refine ⟨_, [], HR, by simp, by simp, fun x hx => .inr ?_, fun x hx => ?_, hb1, by omega, by simp [Value.ownBlock], fun _ => rfl, Lib.hid (World.ownsRow_nil _ _ _ _)⟩
  ·unfold setM; rw [hx]; rfl
  ·unfold setM at hx; cases h : p x with
   | true => rfl
   | false => rw [h] at hx; cases hx
 case round =>
  clear HR hrun hb1 hz1 hcq;obtain ⟨left, ss, hR, hnd, hss, hall, hlp, hbr, hz, hvb, hvn, hrow⟩ := hrel;have hln : ss.length ≤ n := lenI_below hnd (fun x hx => HP.out x (hss x hx).1);rcases hR.out.next 0 with ⟨hno, hrun⟩ | ⟨i, v, W2, c2, hi, hli, hMi, hrun, hR2, hlt2, hc2, hz2, hent⟩
  ·have HI := Lib.hid (fun W (h : W.ownsRow 0 3 1 u3 ss.length (Nums ss)) => ints_own u3 ss W (by omega) h);have hsp := sort_pick (n := n) (p := p) hnd (fun x hx => (hss x hx).1) (fun x hx => (hall x hx).resolve_right (by rw [hno x]; simp)) HP.out;have HSP := Lib.hid hsp;go_wp2_with (first | (go_at_call 48; refine (HI.out _ hrow.out).mono ?_; rintro e w3 ⟨rfl, hr3, hc3⟩) | fail)
   go_ret;go_light;have e := HSP.out;have hl : ss.length = (pickN n p).length := by rw [← e, List.length_mergeSort]
   refine ⟨_, rfl, hbr.trans (hc3.below _ hbr.size (fun k hk e => by have := hvb k e; omega)), by rw [← hl, ← e]; exact hr3, fun k hk => by have := hvb k hk; omega, fun h0 => ?_⟩;rw [h0] at hl;exact hvn (List.eq_nil_of_length_eq_zero hl)
  ·have hz0 := hR2.lt;have hpi2 := hlp i hli;obtain ⟨a, rfl, ha⟩ := HP.out i hpi2;have hrow2 := row_chg hc2 hrow.out (fun k hk e => by have := hvb k hk; omega);have HR2 := Lib.hid hR2; have HW2 := Lib.hid hrow2;have hb2 : Below w.heap.size w W2 := hbr.trans (hc2.below _ hbr.size (fun k hk e => by omega));clear hR hrow hrow2 hR2 hc2;go_wp2_with (first | (at_builtin; refine wpList_app rfl (.tmp 11) (.tmp 13) 47 3 1 8 (.int .i64 0) rfl Tryd.underlying47 Tryd.infoI rfl (by decide) _ _ _ rfl (row_below ((Below.refl _ W2).alloc (Nat.le_refl _) _) HW2.out) ⟨wr.heap.size, 0, none⟩ 1 1 (Nums [(a : Int)]) rfl rfl (src_own (Own.new' _ _ _ _ hz2.symm)) (Nums_one _) (by unfold maxLen; omega) (by omega) (by decide) ?_; intro g4 c4 w4 hr4 hc4 hg4) | fail)
   have hbA : Below W2.heap.size W2 (W2.alloc (.cells #[.int .i64 a] 3)) := (Below.refl _ W2).alloc (Nat.le_refl _) _;have hc5 : Chg (fun k => u3.ownBlock = some k) W2 w4 := (Chg.of hbA).trans hc4;have hz5 := hc5.size
   go_roundg c2
   case measure => exact hlt2
   case rel =>
    refine ⟨_, ss ++ [(a : Int)], Lib.hid (HR2.out.keep (hc5.block _ (HR2.out.owns.lt) (fun e => by have := hvb _ e; omega)) (hc5.block _ (HR2.out.lt.1) (fun e => by have := hvb _ e; omega))), ?_, ?_, ?_, ?_, hb2.trans (hc5.below _ hb2.size (fun k hk e => by have := hvb k e; omega)), by omega, ?_, by simp, Lib.hid (by rw [List.length_append, Nums_append]; exact hr4)⟩
    ·rw [List.nodup_append];refine ⟨hnd, by simp, fun x hx y hy e => ?_⟩;have : y = (a : Int) := by simpa using hy
     subst e;rw [this] at hx;rw [(hss _ hx).2] at hli; cases hli
    ·intro x hx;rcases List.mem_append.1 hx with hx | hx
     ·exact ⟨(hss x hx).1, by simp [(hss x hx).2]⟩
     ·have : x = (a : Int) := by simpa using hx
      subst this;exact ⟨hpi2, by simp⟩
    ·intro x hx;rcases hall x hx with h | h
     ·exact .inl (by simp [h])
     ·by_cases e : x = (a : Int)
      ·exact .inl (by simp [e])
      ·exact .inr (by simp [h, e])
    ·intro x hx;simp at hx;exact hlp x hx.1
    ·intro j hj;have e : g4 = j := by simpa [Value.ownBlock] using hj
     subst e;rcases hg4 with h | h
     ·exact hvb _ h
     ·simp at h; omega
/-- a map of counts -/
def CntAt (W : World) (b q : Nat) (c : Nat → Nat) : Prop := ∃ M, MapAt W b q M ∧ ∀ v : Nat, v < 1024 → (M (v : Int)).getD (.int .i64 0) = .int .i64 (c v)
theorem Tryd.mapC : Tryd.prog.underlying 110 = some (.map 3 3) := by kernel_rfl
theorem zeroI (w : World) : (zeroValue 3).run Tryd.prog w = .ok (.int .i64 0) w := by kernel_rfl
theorem CntAt.lt {W : World} {b q : Nat} {c : Nat → Nat} (h : CntAt W b q c) : b < W.heap.size := by obtain ⟨M, h, _⟩ := h; exact h.lt
theorem CntAt.chg {W W' : World} {b q : Nat} {c : Nat → Nat} {S : Nat → Prop} (h : CntAt W b q c) (hc : Chg S W W') (hs : ¬ S b) : CntAt W' b q c := by obtain ⟨M, h1, h2⟩ := h; exact ⟨M, h1.chg hc hs, h2⟩
theorem CntAt.below {W W' : World} {b q : Nat} {c : Nat → Nat} (h : CntAt W b q c) (hc : Below W.heap.size W W') : CntAt W' b q c := by obtain ⟨M, h1, h2⟩ := h; exact ⟨M, h1.below hc, h2⟩
theorem CntAt.cast {W : World} {b q : Nat} {c c' : Nat → Nat} (h : CntAt W b q c) (e : ∀ v : Nat, v < 1024 → c' v = c v) : CntAt W b q c' := by obtain ⟨M, h1, h2⟩ := h; exact ⟨M, h1, fun v hv => by rw [e v hv]; exact h2 v hv⟩
theorem CntAt.get {W : World} {b q : Nat} {c : Nat → Nat} (h : CntAt W b q c) {v : Nat} (hv : v < 1024) : (Instr.lookup 110 (.map (some b)) (.int .i64 v) false).run Tryd.prog W = .ok (.int .i64 (c v)) W := by
 obtain ⟨M, h1, h2⟩ := h;rw [h1.get Tryd.mapC zeroI (inI_nat hv), h2 v hv]
theorem CntAt.put {W : World} {b q : Nat} {c : Nat → Nat} (h : CntAt W b q c) (hq : q < maxLen) {v : Nat} (hv : v < 1024) (x : Nat) : ∃ W', (Instr.mapUpdate 110 (.map (some b)) (.int .i64 v) (.int .i64 x)).run Tryd.prog W = .ok () W' ∧ CntAt W' b (q + 1) (fun k => if k = v then x else c k) ∧ Chg (· = b) W W' := by
 obtain ⟨M, h1, h2⟩ := h;obtain ⟨W', hr, h3, hc⟩ := h1.set Tryd.mapC hq (inI_nat hv) (.int .i64 x);refine ⟨W', hr, ⟨_, h3, fun k hk => ?_⟩, hc⟩;unfold updM;by_cases e : k = v
 ·subst e; simp
 ·rw [if_neg (by omega)]; dsimp only; rw [if_neg e]; exact h2 k hk
def roundV : Option Nat → Value
 | some v => .tuple #[.int .i64 v, .bool true]
 | none => .tuple #[.int .i64 0, .bool false]
theorem cntA_le {A : Nat → List Int} (hA : ∀ u, (A u).length ≤ 4096) (rem : Nat → Bool) (v : Nat) : cntA A rem v ≤ 1024 * 4096 := by
 unfold cntA;refine sumN_le 1024 (fun k _ => ?_);split
 ·omega
 ·exact Nat.le_trans (List.count_le_length) (hA k)
theorem cntA_congr {A : Nat → List Int} {r r' : Nat → Bool} (h : ∀ u, u < 1024 → r u = r' u ∨ A u = []) (v : Nat) : cntA A r v = cntA A r' v := by
 unfold cntA;refine sumN_congr 1024 (fun k hk => ?_);rcases h k hk with h | h
 ·rw [h]
 ·rw [h]; simp
theorem take_count {l : List Int} {j : Nat} (hj : j < l.length) (v : Int) : (l.take (j + 1)).count v = (l.take j).count v + if l.getD j 0 = v then 1 else 0 := by
 have h : l.take (j + 1) = l.take j ++ [l.getD j 0] := by rw [List.take_add_one, List.getD_eq_getElem?_getD, List.getElem?_eq_getElem hj]; rfl
 rw [h, List.count_append, List.count_singleton];congr 1;by_cases e : l.getD j 0 = v <;> simp [e]
def leftC (left : Int → Bool) : Nat := sumN 1024 fun u => if left (u : Int) then 1 else 0
theorem leftC_le (left : Int → Bool) : leftC left ≤ 1024 := by
 have := sumN_le (f := fun u => if left (u : Int) then 1 else 0) (m := 1) 1024 (fun k _ => by split <;> omega);unfold leftC; omega
theorem leftC_step {left : Int → Bool} {a : Nat} (ha : a < 1024) (h : left (a : Int) = true) : leftC left = leftC (fun k => left k && decide (k ≠ (a : Int))) + 1 := by
 unfold leftC;have := sumN_upd (f := fun u : Nat => if left (u : Int) then 1 else 0) (g := fun u : Nat => if (left (u : Int) && decide ((u : Int) ≠ (a : Int))) then 1 else 0) 1024 ha (fun k hk => by
  have : (k : Int) ≠ (a : Int) := by omega
  simp [this])
 simp only [h] at this;simp at this;simp;omega
noncomputable def rpB (f : PFunc) (v : Nat) : Bool := (reachP f).getD v false
theorem rpB_iff {f : PFunc} {v : Nat} (hv : v < f.code.length) : rpB f v = true ↔ Rch f v := by
 unfold rpB;rw [← reachP_at f v hv, List.getD_eq_getElem?_getD, List.getElem?_eq_getElem (by rw [reachP_len]; exact hv)];simp
def tdTo (Rp : Nat → Bool) (c : Nat → Nat) (k : Nat) : List Int := ((List.range k).filter fun v => Rp v && decide (c v = 0)).map Int.ofNat
theorem tdTo_succ (Rp : Nat → Bool) (c : Nat → Nat) (k : Nat) : tdTo Rp c (k + 1) = if Rp k = true ∧ c k = 0 then tdTo Rp c k ++ [(k : Int)] else tdTo Rp c k := by
 unfold tdTo;rw [List.range_succ, List.filter_append, List.map_append];by_cases h : Rp k = true ∧ c k = 0
 ·rw [if_pos h]; simp [h.1, h.2]
 ·rw [if_neg h];have : (Rp k && decide (c k = 0)) = false := by
   rw [Bool.eq_false_iff]; intro e; simp at e; exact h e
  simp [this]
theorem tdTo_mem {Rp : Nat → Bool} {c : Nat → Nat} {k : Nat} {x : Int} : x ∈ tdTo Rp c k ↔ ∃ v : Nat, x = v ∧ v < k ∧ Rp v = true ∧ c v = 0 := by
 unfold tdTo;constructor
 ·intro h;obtain ⟨v, hv, rfl⟩ := List.mem_map.1 h;obtain ⟨h1, h2⟩ := List.mem_filter.1 hv;simp at h2;exact ⟨v, rfl, List.mem_range.1 h1, h2.1, h2.2⟩
 ·rintro ⟨v, rfl, h1, h2, h3⟩;exact List.mem_map.2 ⟨v, List.mem_filter.2 ⟨List.mem_range.2 h1, by simp [h2, h3]⟩, rfl⟩
theorem tdTo_nodup (Rp : Nat → Bool) (c : Nat → Nat) (k : Nat) : (tdTo Rp c k).Nodup := by
 unfold tdTo;have h : ((List.range k).filter fun v => Rp v && decide (c v = 0)).Nodup := List.Nodup.sublist List.filter_sublist List.nodup_range;unfold List.Nodup at *;rw [List.pairwise_map];exact h.imp fun h e => h (Int.ofNat.inj e)
theorem tdTo_len (Rp : Nat → Bool) (c : Nat → Nat) (k : Nat) : (tdTo Rp c k).length ≤ k := by
 unfold tdTo; rw [List.length_map]; exact Nat.le_trans (List.length_filter_le _ _) (by simp)
theorem KInv.start {A : Nat → List Int} {n : Nat} {Rp : Nat → Bool} : KInv A n Rp (cntA A fun _ => false) (fun _ => false) (tdTo Rp (cntA A fun _ => false) n) [] :=
 ⟨fun v => by simp, fun x hx => by
  obtain ⟨v, e, h1, h2, h3⟩ := tdTo_mem.1 hx;exact ⟨v, e, h1, h2, rfl, h3⟩, tdTo_nodup _ _ _, fun v hv => absurd hv (by simp), fun v h1 h2 h3 => Or.inl (tdTo_mem.2 ⟨v, rfl, h1, h2, h3⟩)⟩
theorem nxG_eq (G : Nat → Nat → List Int) (c : Nat) : nxG G c = fun i => G c i.toNat := rfl
theorem comes_zero {G : Nat → Nat → List Int} (hG : GBnd G) {v : Nat} (h : Acc (fun u x : Nat => (x : Int) ∈ G 1 u ∧ u < 1024) v) : comesB G v = false := by
 refine comesB_false ?_;rw [nxG_eq];exact acc_comes (A := G 1) (fun u x hx => ⟨hG.ky 1 u x hx, hG.el 1 u x hx⟩) h
theorem comes_in {G : Nat → Nat → List Int} {v : Nat} (h : comesB G v = true) : ∃ u, (v : Int) ∈ G 1 u := by
 have hc := comesB_iff.1 h;cases hc with
 | start _ hx => exact ⟨v, hx⟩
 | step x _ h1 h2 h3 => exact ⟨x.toNat, h3⟩
theorem KInv.none {G : Nat → Nat → List Int} {n : Nat} {Rp : Nat → Bool} {c : Nat → Nat} {rem : Nat → Bool} (h : KInv (G 1) n Rp c rem [] []) (hG : GBnd G) (hR : ∀ u x, x ∈ G 1 u → ∃ k : Nat, x = k ∧ k < n ∧ Rp k = true) (h0 : leftN n Rp rem = 0) (v : Nat) : comesB G v = false := by
 cases e : comesB G v with
 | false => rfl
 | true =>
  obtain ⟨u, hu⟩ := comes_in e;obtain ⟨k, hk, hkn, hkr⟩ := hR u _ hu;have : v = k := by omega
  subst this;have h1 := sumN_zero n h0 v hkn;rw [hkr] at h1;have hr : rem v = true := by
   cases hr : rem v with
   | true => rfl
   | false => rw [hr] at h1; simp at h1
  rw [comes_zero hG (h.r v hr).2.1] at e; cases e
theorem KInv.len {A : Nat → List Int} {n : Nat} {Rp : Nat → Bool} {c : Nat → Nat} {rem : Nat → Bool} {td rest : List Int} (h : KInv A n Rp c rem td rest) : td.length ≤ n :=
 lenI_below h.nd (fun x hx => by obtain ⟨v, e, hv, _⟩ := h.t x hx; exact ⟨v, e, hv⟩)
def OwnB3 (W : World) (k b0 : Nat) : Prop := Own W k [.map (some b0), .map (some (b0 + 1)), .map (some (b0 + 2))]
theorem round_any (lo b0 n B : Nat) (G : Nat → Nat → List Int) (S : Nat → Nat → Option Value) (hh : HF) (f : PFunc) (w : World) (hB : B ≤ w.heap.size) (hf : FuncOk B w hh f) (hn0 : 0 < f.code.length) (hn : f.code.length ≤ 1024) (hg : GraphAt w lo b0 n G S) (hG : GBnd G)
 (hE : ∀ u x, x ∈ G 1 u → ∃ k : Nat, x = k ∧ Rch f k) :
 Calls Tryd.prog 24 #[.agg #[.map (some b0), .map (some (b0 + 1)), .map (some (b0 + 2))], FuncVal hh f] w fun e w' => e = .returned (roundV (firstI f.code.length (comesB G))) ∧ Below w.heap.size w w' := by
 have hmm := @run_makeMap Tryd.prog;have HG := Lib.hid hg; have HF := Lib.hid hf;have HRc := Lib.hid (fun w hB hf => reach_any B hh f w hB hf hn0 hn);have HCm := Lib.hid (fun w hg v hv => comes_any lo b0 n G S w hg hG v hv);obtain ⟨pa, pl, pc, ca, cl, cc⟩ := hh;obtain ⟨h1, h2, ⟨hcl, hcm, hcx⟩, h4, h5⟩ := hf;dsimp only at *;subst hcl;clear h2 hcm hcx h1 h4 h5 hg;unfold FuncVal at *;dsimp only at *;go_enter Tryd.func24, Tryd.ntmps24;go_upto_region 2 with (fail)
 generalize hW0 : World.alloc _ _ = W0;have hb0 : Below w.heap.size w W0 := by rw [← hW0]; exact bel
 have hz0 : W0.heap.size = w.heap.size + 3 := by rw [← hW0]; simp
 have OB : Own W0 w.heap.size [.map (some b0), .map (some (b0 + 1)), .map (some (b0 + 2))] := by rw [← hW0]; exact ((Own.new _ _ _).alloc _).alloc _
 have OF : Own W0 (w.heap.size + 1) [.string f.name, .slice pa pl pc, .int .i64 f.regs, .int .i64 f.words, .slice ca f.code.length cc] := by rw [← hW0]; exact (Own.new' _ _ _ _ (by simp)).alloc _
 have OM : CntAt W0 (w.heap.size + 1 + 1) 0 (fun _ => 0) := by
  refine ⟨fun _ => none, ?_, fun v _ => rfl⟩;rw [← hW0];exact MapAt.made' _ _ (by simp)
 clear hW0 hmm;have hg0 := HG.out.below hb0;have b3 := own3 OB;have hbig : ∀ i, ¬ inI i → rowM (S 1) i = none := fun i hi => by
  unfold rowM;split
  ·refine HG.out.big 1 _ (by decide) (fun h => hi ?_);unfold inI; omega
  ·rfl
 obtain ⟨W1, cnt, hrun, hR, hb1, hz1, hcq⟩ := (hg0.map 1 (by decide)).range Tryd.mapS hbig;go_upto_region 3 with (fail)
 rw [hz0] at hR;have hHR := Lib.hid hR;have hbw1 : Below w.heap.size w W1 := hb0.trans (hb1.mono (by omega));have OB1 := Lib.hid (OB.below hb1); have OF1 := Lib.hid (OF.below hb1); have OM1 := Lib.hid (OM.below hb1);have hz1' : w.heap.size + 4 ≤ W1.heap.size := by omega
 clear hR hrun hg0 b3 OB OF OM hb1 hb0 hcq;have hA : ∀ u, (G 1 u).length ≤ 4096 := hG.ln 1;have HGE := Lib.hid hG;clear hG
 go_loopg [] cnt (fun k wr => ∃ (left : Int → Bool) (q : Nat), Hid (MapRange wr (b0 + 1) (w.heap.size + 3) n (rowM (S 1)) left k) ∧ q + 4096 * leftC left ≤ 4194304 ∧ Hid (∀ i, left i = true → (rowM (S 1) i).isSome = true) ∧ Below w.heap.size w wr ∧ w.heap.size + 4 ≤ wr.heap.size ∧ Hid (Own wr w.heap.size [.map (some b0), .map (some (b0 + 1)), .map (some (b0 + 2))]) ∧ Hid (Own wr (w.heap.size + 1) [.string f.name, .slice pa pl pc, .int .i64 f.regs, .int .i64 f.words, .slice ca f.code.length cc]) ∧ Hid (CntAt wr (w.heap.size + 1 + 1) q (fun v => cntA (G 1) (fun u => left u) v)))
 case atStart =>
  refine ⟨_, 0, hHR, by have := leftC_le (fun i => (rowM (S 1) i).isSome); omega, Lib.hid (fun i h => h), hbw1, hz1', OB1, OF1, Lib.hid (OM1.out.cast fun v _ => ?_)⟩;unfold cntA;refine sumN_of_zero 1024 (fun k _ => ?_);dsimp only;cases hs : S 1 k with
  | some s => simp [rowM_nat, hs]
  | none =>
   have : G 1 k = [] := by
    cases hgk : G 1 k with
    | nil => rfl
    | cons x t => have := (HG.out.ent 1 k (by decide)).2 (by rw [hgk]; simp); rw [hs] at this; cases this
   rw [this]; simp
 case round =>
  clear hHR hbw1 hz1' OB1 OF1 OM1 hz1 hz0;obtain ⟨left, q, hR, hq, hsm, hbr, hzr, OB, OF, OM⟩ := hrel;rcases hR.out.next 0 with ⟨hno, hrun⟩ | ⟨i, s, W2, c2, hi, hli, hMi, hrun, hR2, hlt2, hc2, hz2, hent⟩
  ·go_upto_region 12 with (fail)
   have hcong : ∀ v, v < 1024 → cntA (G 1) (fun _ => false) v = cntA (G 1) (fun u => left u) v := fun v _ => cntA_congr (fun u _ => .inl (hno u).symm) v;have OM0 := Lib.hid (OM.out.cast (c' := cntA (G 1) (fun _ => false)) hcong);have hq0 : q ≤ 4194304 := by omega
   obtain ⟨W2, hW2⟩ : ∃ wo : World, wo = wr := ⟨_, rfl⟩
   rw [← hW2] at hbr hzr OB OF OM0 ⊢;have hf5 := own5 OF.out;have HR2 := Lib.hid (HRc.out W2 (by have := hbr.size; omega) (HF.out.same (Same.of hbr hB)));clear OM hR hrun hsm hcong hno hq hW2;have HC0 := Lib.hid (cntA_le hA (fun _ => false));have HKS := Lib.hid (KInv.start (A := G 1) (n := f.code.length) (Rp := rpB f));have hLE : leftN f.code.length (rpB f) (fun _ => false) ≤ 1024 := by
    have := sumN_le (f := fun v => if rpB f v && !(fun _ : Nat => false) v then 1 else 0) (m := 1) f.code.length (fun k _ => by split <;> omega);unfold leftN; omega
   have HL0 := Lib.hid (show leftN f.code.length (rpB f) (fun _ => false) = sumN f.code.length (fun v => if rpB f v then 1 else 0) by unfold leftN; refine sumN_congr _ (fun k _ => ?_); simp);generalize cntA (G 1) (fun _ => false) = c0 at *;go_upto_region 13 with (first | (go_at_call 31; refine HR2.out.mono ?_; rintro e w3 ⟨rv, rfl, hb3, hr3, hf3⟩; obtain ⟨rb, rc, rfl, hrc, hrm, hrl⟩ := row_pos hr3 (by rw [reachP_len]; exact hn0); rw [reachP_len] at hr3 ⊢) | fail)
   clear HR2 hf5;have hz3 := hb3.size;have hf3' := hf3 rb rfl;have OB3 := Lib.hid (OB.out.below hb3); have OF3 := Lib.hid (OF.out.below hb3); have OM3 := Lib.hid (OM0.out.below hb3); have HR3 := Lib.hid hr3;have hb03 : Below w.heap.size w w3 := hbr.trans (hb3.mono hbr.size);have hn64 : f.code.length ≤ 9223372036854775807 := by omega
   clear OB OF OM0 hr3 hb3 hbr hf3;go_loopw [11, 12, 41] (fun d td i wx => ∃ k : Nat, k ≤ f.code.length ∧ i = .int .i64 k ∧ d = .int .i64 (sumN k (fun v => if rpB f v then 1 else 0) : Nat) ∧ Below w3.heap.size w3 wx ∧ (∀ j, td.ownBlock = some j → w3.heap.size ≤ j) ∧ Hid (wx.ownsRow 0 3 1 td (tdTo (rpB f) c0 k).length (Nums (tdTo (rpB f) c0 k)))) (fun d td i _ => f.code.length - (intOf i).toNat)
   case atStart => exact ⟨0, Nat.zero_le _, rfl, rfl, Below.refl _ _, by simp [Value.ownBlock], Lib.hid (World.ownsRow_nil _ _ _ _)⟩
   case round =>
    rename_i wq;obtain ⟨k, hk, rfl, rfl, hbx, hvb, hrow⟩ := hrel;have hzx := hbx.size;by_cases hlt : k < f.code.length
    ·have d2 : (k : Int) < (f.code.length : Int) := by omega
     have hwk : IntKind.i64.wrap ((k : Int) + 1) = (k : Int) + 1 := IntWalk.i64_in _ (by omega);have hgr : (reachP f)[k]? = some (rpB f k) := by unfold rpB; rw [List.getD_eq_getElem?_getD, List.getElem?_eq_getElem (by rw [reachP_len]; exact hlt)]; rfl
     have cc0 := row_cell (row_below hbx HR3.out) (Bools_some hgr);have hs := sumN_le (f := fun v => if rpB f v then 1 else 0) (m := 1) k (fun j _ => by split <;> omega);have hsum : sumN (k + 1) (fun v => if rpB f v then 1 else 0) = sumN k (fun v => if rpB f v then 1 else 0) + if rpB f k then 1 else 0 := rfl
     have HSM := Lib.hid hsum;have HTD := Lib.hid (tdTo_succ (rpB f) c0 k);have htl := tdTo_len (rpB f) c0 k;clear hsum hgr;generalize sumN k (fun v => if rpB f v then 1 else 0) = sm at *;have hws : IntKind.i64.wrap ((sm : Int) + 1) = (sm : Int) + 1 := IntWalk.i64_in _ (by omega);have hlk := (OM3.out.below hbx).get (show k < 1024 by omega);generalize rpB f k = r at *;cases r
     ·go_wp2_with fail;refine ⟨⟨k + 1, by omega, by simp, by rw [HSM.out]; simp, hbx, hvb, Lib.hid (by rw [HTD.out, if_neg (by simp)]; exact hrow.out)⟩, ?_⟩;go_light; first | omega | (simp only [intOf]; omega)
     ·by_cases hc0 : c0 k = 0
      ·rw [hc0] at hlk;go_wp2_with (first | (at_builtin; refine wpList_app rfl (.tmp 53) (.tmp 55) 47 3 1 8 (.int .i64 0) rfl Tryd.underlying47 Tryd.infoI rfl (by decide) _ _ _ rfl (row_below ((Below.refl _ wr).alloc (Nat.le_refl _) _) hrow.out) ⟨wr.heap.size, 0, none⟩ 1 1 (Nums [(k : Int)]) rfl rfl (src_own (Own.new' _ _ _ _ rfl)) (Nums_one _) (by unfold maxLen; omega) (by omega) (by decide) ?_; intro g4 c4 w4 hr4 hc4 hg4) | fail)
       have hbA : Below wr.heap.size wr (wr.alloc (.cells #[.int .i64 k] 3)) := (Below.refl _ wr).alloc (Nat.le_refl _) _;have hc5 : Chg (fun j => u12.ownBlock = some j) wr w4 := (Chg.of hbA).trans hc4;refine ⟨⟨k + 1, by omega, by simp, by rw [HSM.out]; simp, hbx.trans (hc5.below _ hbx.size (fun j hj e => by have := hvb j e; omega)), fun j hj => ?_, Lib.hid (by rw [HTD.out, if_pos ⟨rfl, hc0⟩, List.length_append, Nums_append]; exact hr4)⟩, ?_⟩
       ·have e : g4 = j := by simpa [Value.ownBlock] using hj
        subst e;rcases hg4 with h | h
        ·exact hvb _ h
        ·simp at h; omega
       ·go_light; first | omega | (simp only [intOf]; omega)
      ·have q1 : ¬ ((c0 k : Nat) : Int) = 0 := by omega
       have q2 : (((c0 k : Nat) : Int) == 0) = false := by rw [beq_eq_false_iff_ne]; omega
       go_wp2_with fail;refine ⟨⟨k + 1, by omega, by simp, by rw [HSM.out]; simp, hbx, hvb, Lib.hid (by rw [HTD.out, if_neg (fun h => hc0 h.2)]; exact hrow.out)⟩, ?_⟩;go_light; first | omega | (simp only [intOf]; omega)
    ·have hkk : k = f.code.length := by omega
     subst hkk;have d2 : ¬ (f.code.length : Int) < (f.code.length : Int) := by omega
     go_upto_region 20 with (fail)
     rw [← HL0.out];have OB4 := Lib.hid (OB3.out.below hbx); have OF4 := Lib.hid (OF3.out.below hbx); have OM4 := Lib.hid (OM3.out.below hbx);have hb04 : Below w.heap.size w wr := hb03.trans (hbx.mono hb03.size);have hz4 : w.heap.size + 4 ≤ wr.heap.size := by omega
     have hvb4 : ∀ j, u12.ownBlock = some j → w.heap.size + 4 ≤ j := fun j hj => by have := hvb j hj; omega
     have hR4 : Hid (∀ u x, x ∈ G 1 u → ∃ k : Nat, x = k ∧ k < f.code.length ∧ rpB f k = true) := Lib.hid (fun u x hx => by
      obtain ⟨k, e, hk⟩ := hE u x hx;have hk2 := hk.lt hn0;exact ⟨k, e, hk2, (rpB_iff hk2).2 hk⟩)
     obtain ⟨W5, hW5⟩ : ∃ wo : World, wo = wr := ⟨_, rfl⟩
     rw [← hW5] at OB4 OF4 OM4 hb04 hz4 hrow ⊢;clear hW5 OB3 OF3 OM3 HR3 hbx hvb hb03 hlt d2 hz3 hzr HL0;generalize hRp : rpB f = Rp at *;clear hRp
     go_loopg [11, 12] (leftN f.code.length Rp (fun _ => false)) (fun d vl vt wx => ∃ (c : Nat → Nat) (rem : Nat → Bool) (td : List Int) (p : Nat), d = leftN f.code.length Rp rem ∧ vl = .int .i64 (leftN f.code.length Rp rem : Nat) ∧ Hid (KInv (G 1) f.code.length Rp c rem td []) ∧ p + 4096 * d ≤ 8388608 ∧ d ≤ 1024 ∧ Below w.heap.size w wx ∧ w.heap.size + 4 ≤ wx.heap.size ∧ Hid (Own wx w.heap.size [.map (some b0), .map (some (b0 + 1)), .map (some (b0 + 2))]) ∧ Hid (Own wx (w.heap.size + 1) [.string f.name, .slice pa pl pc, .int .i64 f.regs, .int .i64 f.words, .slice ca f.code.length cc]) ∧ Hid (CntAt wx (w.heap.size + 1 + 1) p c) ∧ (∀ j, vt.ownBlock = some j → w.heap.size + 4 ≤ j) ∧ Hid (wx.ownsRow 0 3 1 vt td.length (Nums td)))
     case atStart => exact ⟨c0, _, _, q, rfl, rfl, HKS, by omega, hLE, hb04, hz4, OB4, OF4, OM4, hvb4, hrow⟩
     case round =>
      clear HKS hLE hb04 hz4 OB4 OF4 OM4 hvb4 hrow HC0 hq0;rename_i wq2;obtain ⟨c, rem, td, p, rfl, rfl, hK, hp, hd, hbr, hzr, OB, OF, OM, hvb, hrow⟩ := hrel;have b3 := own3 OB.out;have f5 := own5 OF.out;rcases nil_or_snoc td with rfl | ⟨t, x, rfl⟩
      ·obtain ⟨va, vc, rfl⟩ : ∃ va vc, u12 = .slice va 0 vc := by
        rcases row_form hrow.out with ⟨rfl, _, _⟩ | ⟨g, c, rfl, _, _, _⟩
        ·exact ⟨_, _, rfl⟩
        ·exact ⟨_, _, rfl⟩
       have HKN := Lib.hid (fun h0 => hK.out.none HGE.out hR4.out h0);generalize leftN f.code.length Rp rem = L at *;by_cases hL : L = 0
       ·subst hL;go_wp2;go_ret2;go_light;have h0 := HKN.out (by trivial);rw [firstI_none _ _ (fun i _ => h0 i)];exact ⟨rfl, hbr⟩
       ·have q1 : ¬ (L : Int) = 0 := by omega
        have q2 : ((L : Int) == 0) = false := by rw [beq_eq_false_iff_ne]; omega
        have HKA := Lib.hid (fun v (h : c v = 0) => comes_zero HGE.out (hK.out.acc h));clear HKN hK hp hd;obtain ⟨W7, hW7⟩ : ∃ wo : World, wo = wr := ⟨_, rfl⟩
        rw [← hW7] at hbr hzr OB OF OM f5 ⊢;clear hW7 hrow b3;have hn64' : f.code.length ≤ 9223372036854775807 := by omega
        go_upto_region 34 with (fail)
        clear f5;go_loopw [101] (fun i wx => ∃ j : Nat, j ≤ f.code.length ∧ i = .int .i64 j ∧ Hid (∀ v, v < j → comesB G v = false) ∧ Below W7.heap.size W7 wx) (fun i _ => f.code.length - (intOf i).toNat)
        case atStart => exact ⟨0, Nat.zero_le _, rfl, Lib.hid (fun i hi => by omega), Below.refl _ _⟩
        case round =>
         rename_i wq3;obtain ⟨j, hj, rfl, hno, hbx⟩ := hrel;have hbw : Below w.heap.size w wr := hbr.trans (hbx.mono hbr.size);have b3 := own3 (OB.out.below hbx);have hlk := fun h => (OM.out.below hbx).get (v := j) h;by_cases hjt : j < f.code.length
         ·have d3 : (j : Int) < (f.code.length : Int) := by omega
          have hwj : IntKind.i64.wrap ((j : Int) + 1) = (j : Int) + 1 := IntWalk.i64_in _ (by omega);have hlk := hlk (by omega);have HA := Lib.hid (HKA.out j);have HCo := Lib.hid (HCm.out wr (HG.out.below hbw) j (by omega));obtain ⟨cv, hcv⟩ : ∃ cv, cv = c j := ⟨_, rfl⟩
          rw [← hcv] at hlk HA;clear hcv;by_cases hc0 : cv = 0
          ·subst hc0;have hcj := HA.out rfl;have q3 : ¬ (0 : Int) < 0 := by omega
           go_wp2_with fail;refine ⟨⟨j + 1, by omega, by simp, Lib.hid (fun v hv => ?_), hbx⟩, ?_⟩
           ·by_cases e : v = j
            ·subst e; exact hcj
            ·exact hno.out v (by omega)
           ·go_light; first | omega | (simp only [intOf]; omega)
          ·have q3 : (0 : Int) < (cv : Int) := by omega
           have HFS := Lib.hid (fun h => firstI_some f.code.length (comesB G) j hjt h hno.out);have HNX := Lib.hid (fun h v (hv : v < j + 1) => show comesB G v = false from (by
            by_cases e : v = j
            ·subst e; exact h
            ·exact hno.out v (by omega)))
           generalize comesB G j = cm at *;go_wp2_with (first | (go_at_call 47; refine HCo.out.mono ?_; rintro e w8 ⟨rfl, hb8⟩) | fail)
           ·go_ret2;go_light;rename_i hcm;rw [HFS.out hcm];exact ⟨rfl, hbw.trans (hb8.mono hbw.size)⟩
           ·rename_i hcm;refine ⟨⟨j + 1, by omega, by simp, Lib.hid (HNX.out hcm), hbx.trans (hb8.mono hbx.size)⟩, ?_⟩;go_light; first | omega | (simp only [intOf]; omega)
         ·have hjj : j = f.code.length := by omega
          subst hjj;have d3 : ¬ (f.code.length : Int) < (f.code.length : Int) := by omega
          go_wp2;go_ret2;go_light;rw [firstI_none _ _ hno.out];exact ⟨rfl, hbw⟩
      ·obtain ⟨u, hu, hun, hur, hurm, huc⟩ := hK.out.t x (by simp);subst hu;obtain ⟨hK2, -, -, -, hL2⟩ := hK.out.pop hn;have hln2 : (t ++ [(u : Int)]).length = t.length + 1 := by simp
       have hT2 := hrow.out;rw [hln2] at hT2;obtain ⟨g, c1, rfl, hgc, hgm, hgl⟩ := row_pos hT2 (by omega);have hgm' : c1 ≤ 9223372036854775807 := hgm;have t0 := row_cell hT2 (Nums_some (show (t ++ [(u : Int)])[t.length]? = some (u : Int) by simp));have hw1 : IntKind.i64.wrap ((t.length : Int) + 1 - 1) = (t.length : Int) := by rw [IntWalk.i64_in _ (by omega)]; omega
       have j1 : (0 : Int) < (t.length : Int) + 1 := by omega
       have hpop := row_take hT2 t.length (by omega);rw [Nat.mul_one, show (Nums (t ++ [(u : Int)])).take t.length = Nums t by rw [Nums_append, ← Nums_len t, List.take_left]] at hpop;have hvg := hvb g rfl;have HP := Lib.hid hpop; clear hpop hT2 hrow;have hu1 : u < 1024 := by omega
       have hg5 := HG.out.below hbr;have hlk := (hg5.map 1 (by decide)).get Tryd.mapS zeroS (inI_nat hu1);rw [rowM_nat] at hlk;have hrow5 := hg5.row (c := 1) (v := u) (by decide);have hl5 := hA u;obtain ⟨sa, sc, hsv⟩ : ∃ sa sc, (S 1 u).getD nilS = .slice sa (G 1 u).length sc := by
        rcases row_form hrow5 with ⟨h1, h2, _⟩ | ⟨g, c, h1, _⟩
        ·exact ⟨none, 0, by rw [h1, h2]⟩
        ·exact ⟨_, c, h1⟩
       have hrw : ∀ k, ((S 1 u).getD nilS).ownBlock = some k → k < w.heap.size := fun k hk => row_lt (HG.out.row (c := 1) (v := u) (by decide)) hk;rw [hsv] at hlk hrw hrow5;have HRow := Lib.hid hrow5; clear hrow5 hg5 hsv;have HK2 := Lib.hid hK2; clear hK2 hK;have hwl : IntKind.i64.wrap ((leftN f.code.length Rp rem : Nat) - 1 : Int) = (leftN f.code.length Rp (addN rem u) : Nat) := by rw [IntWalk.i64_in _ (by omega)]; omega
       have HL2 := Lib.hid hL2; clear hL2;have hbx0 : ∀ j, (Value.slice (some ⟨g, 0, none⟩) t.length c1).ownBlock = some j → w.heap.size + 4 ≤ j := fun j hj => hvb j hj;obtain ⟨W6, hW6⟩ : ∃ wo : World, wo = wr := ⟨_, rfl⟩
       go_upto_region 25 with (fail)
       rw [← hW6] at hbr hzr OB OF OM HP HRow ⊢;have hbw0 := hbr;clear hW6 hlk b3 f5 t0 hvb;go_loopw [12, 79] (fun vt i wx => ∃ (j p2 : Nat) (c : Nat → Nat) (td : List Int), j ≤ (G 1 u).length ∧ i = .int .i64 j ∧ p2 ≤ p + j ∧ Hid (KInv (G 1) f.code.length Rp c (addN rem u) td ((G 1 u).drop j)) ∧ Below w.heap.size w wx ∧ w.heap.size + 4 ≤ wx.heap.size ∧ Hid (Own wx w.heap.size [.map (some b0), .map (some (b0 + 1)), .map (some (b0 + 2))]) ∧ Hid (Own wx (w.heap.size + 1) [.string f.name, .slice pa pl pc, .int .i64 f.regs, .int .i64 f.words, .slice ca f.code.length cc]) ∧ Hid (CntAt wx (w.heap.size + 1 + 1) p2 c) ∧ (∀ j, vt.ownBlock = some j → w.heap.size + 4 ≤ j) ∧ Hid (wx.ownsRow 0 3 1 vt td.length (Nums td))) (fun vt i _ => (G 1 u).length - (intOf i).toNat)
       case atStart => exact ⟨0, p, c, t, Nat.zero_le _, rfl, by omega, by simpa using HK2, hbr, hzr, OB, OF, OM, hbx0, HP⟩
       case round =>
        rename_i wq3;clear hbr hzr OB OF OM hbx0 HP HK2;obtain ⟨j, p2, c, td, hj, rfl, hp2, hK, hbr, hzr, OB, OF, OM, hvb, hrow⟩ := hrel;by_cases hjt : j < (G 1 u).length
        ·have d3 : (j : Int) < ((G 1 u).length : Int) := by omega
         have hwj : IntKind.i64.wrap ((j : Int) + 1) = (j : Int) + 1 := IntWalk.i64_in _ (by omega);have hgj : (G 1 u)[j]? = some ((G 1 u).getD j 0) := by rw [List.getD_eq_getElem?_getD, List.getElem?_eq_getElem hjt]; rfl
         obtain ⟨v0, hv0, hvn, hvr⟩ := hR4.out u _ (List.mem_of_getElem? hgj);have hdr : (G 1 u).drop j = (v0 : Int) :: (G 1 u).drop (j + 1) := by
          rw [List.drop_eq_getElem_cons hjt, ← hv0, List.getD_eq_getElem?_getD, List.getElem?_eq_getElem hjt]; rfl
         have hK1 := hK.out;rw [hdr] at hK1;obtain ⟨hK2, hcp⟩ := hK1.step hvn hvr;have hcl : c v0 ≤ 4198400 := by
          have h1 := hK.out.cn v0;have h2 := cntA_le hA (addN rem u) v0;have h3 := List.count_le_length (a := (v0 : Int)) (l := (G 1 u).drop j);rw [List.length_drop] at h3;omega
         have htl := hK.out.len;obtain ⟨g2, gc2, hgv, -, -, hgl2⟩ := row_pos HRow.out (by omega);cases hgv;have hgw : g2 < w.heap.size := hrw g2 rfl;have cc0 := ((hbr.cell (p := ⟨g2, j, none⟩) hgw).trans ((hbw0.cell (p := ⟨g2, j, none⟩) hgw).symm)).trans (row_cell HRow.out (Nums_some hgj));rw [hv0] at cc0;have hv1 : v0 < 1024 := by omega
         have hlk := OM.out.get hv1;obtain ⟨W8, hrun8, hM8, hc8⟩ := OM.out.put (by unfold maxLen; omega) hv1 (c v0 - 1);have hz8 := hc8.size;have hlk8 := hM8.get hv1;rw [if_pos rfl] at hlk8;have OB8 := hc8.own OB.out (by omega);have OF8 := hc8.own OF.out (by omega);have hb8 : Below w.heap.size w W8 := hbr.trans (hc8.below _ hbr.size (fun k hk e => by omega));have R8 := row_chg hc8 hrow.out (fun k hk e => by have := hvb k hk; omega);have M8 := Lib.hid (hM8.cast (c' := decN c v0) (fun k _ => rfl));have HK3 := Lib.hid hK2;have OB9 := Lib.hid OB8; have OF9 := Lib.hid OF8; have R9 := Lib.hid R8;have b3 := own3 OB8;clear hK hK1 hK2 hdr hgj hM8 OB OF OM OB8 OF8 R8 hrow;unfold putT at HK3;obtain ⟨C, hC⟩ : ∃ C, C = c v0 := ⟨_, rfl⟩
         rw [← hC] at hlk hrun8 hlk8 hcp hcl HK3;have hwc : IntKind.i64.wrap ((C : Int) - 1) = ((C - 1 : Nat) : Int) := by rw [IntWalk.i64_in _ (by omega)]; omega
         clear hC;by_cases hC0 : C - 1 = 0
         ·rw [hC0] at hwc hrun8 hlk8;rw [show ((0 : Nat) : Int) = 0 from rfl] at hwc hrun8 hlk8;rw [if_pos hC0] at HK3;go_wp2_with (first | (at_builtin; refine wpList_app rfl (.tmp 91) (.tmp 93) 47 3 1 8 (.int .i64 0) rfl Tryd.underlying47 Tryd.infoI rfl (by decide) _ _ _ rfl (row_below ((Below.refl _ W8).alloc (Nat.le_refl _) _) R9.out) ⟨W8.heap.size, 0, none⟩ 1 1 (Nums [(v0 : Int)]) rfl rfl (src_own (Own.new' _ _ _ _ rfl)) (Nums_one _) (by unfold maxLen; omega) (by omega) (by decide) ?_; intro g4 c4 w4 hr4 hc4 hg4) | fail)
          have hbA : Below W8.heap.size W8 (W8.alloc (.cells #[.int .i64 v0] 3)) := (Below.refl _ W8).alloc (Nat.le_refl _) _;have hc9 : Chg (fun j => u12.ownBlock = some j) W8 w4 := (Chg.of hbA).trans hc4;have hz9 := hc9.size;have hvb4 : ∀ i, (Value.slice (some ⟨g4, 0, none⟩) (td.length + 1) c4).ownBlock = some i → w.heap.size + 4 ≤ i := fun i hi => by
           have e : g4 = i := by simpa [Value.ownBlock] using hi
           subst e;rcases hg4 with h | h
           ·exact hvb _ h
           ·simp at h; omega
          refine ⟨⟨j + 1, p2 + 1, decN c v0, td ++ [(v0 : Int)], by omega, by simp, by omega, HK3, hb8.trans (hc9.below _ hb8.size (fun j hj e => by have := hvb j e; omega)), by omega, Lib.hid (hc9.own OB9.out (fun e => by have := hvb _ e; omega)), Lib.hid (hc9.own OF9.out (fun e => by have := hvb _ e; omega)), Lib.hid (M8.out.chg hc9 (fun e => by have := hvb _ e; omega)), hvb4, Lib.hid (by rw [List.length_append, Nums_append]; exact hr4)⟩, ?_⟩;go_light; first | omega | (simp only [intOf]; omega)
         ·have q1 : ¬ ((C - 1 : Nat) : Int) = 0 := by omega
          have q2 : (((C - 1 : Nat) : Int) == 0) = false := by rw [beq_eq_false_iff_ne]; omega
          rw [if_neg hC0] at HK3;generalize C - 1 = C2 at *;go_wp2_with fail;refine ⟨⟨j + 1, p2 + 1, decN c v0, td, by omega, by simp, by omega, HK3, hb8, by omega, OB9, OF9, M8, hvb, R9⟩, ?_⟩;go_light; first | omega | (simp only [intOf]; omega)
        ·have hjj : j = (G 1 u).length := by omega
         subst hjj;have d3 : ¬ ((G 1 u).length : Int) < ((G 1 u).length : Int) := by omega
         rw [List.drop_length] at hK;go_wp2
         go_roundg (leftN f.code.length Rp (addN rem u))
         case measure => have := HL2.out; omega
         case rel => exact ⟨c, addN rem u, td, p2, rfl, rfl, hK, by have := HL2.out; omega, by have := HL2.out; omega, hbr, hzr, OB, OF, OM, hvb, hrow⟩
  ·have hi0 : 0 ≤ i := by
    unfold rowM at hMi;split at hMi
    ·assumption
    ·cases hMi
   obtain ⟨a, rfl⟩ := Int.eq_ofNat_of_zero_le hi0;rw [rowM_nat] at hMi;have ha : a < 1024 := by
    refine Classical.byContradiction fun h => ?_;rw [HG.out.big 1 a (by decide) h] at hMi; cases hMi
   have hlt := hR.out.lt;have hgr := HG.out.below hbr;have hb2 : Below w.heap.size w W2 := hbr.trans (hc2.below _ hbr.size (fun k hk e => by omega));have hrow := (HG.out.below hb2).each 1 a s (by decide) hMi;have hal := hA a;obtain ⟨sa, sc, rfl⟩ : ∃ sa sc, s = .slice sa (G 1 a).length sc := by
    rcases row_form hrow with ⟨h1, h2, _⟩ | ⟨g, c, h1, _⟩
    ·exact ⟨none, 0, by rw [h1, h2]⟩
    ·exact ⟨_, c, h1⟩
   have hlc := leftC_step ha hli;have HR2 := Lib.hid hR2; have HRow := Lib.hid hrow;have OB2 := Lib.hid (hc2.own OB.out (by omega)); have OF2 := Lib.hid (hc2.own OF.out (by omega)); have OM2 := Lib.hid (OM.out.chg hc2 (by omega));have hc' : Below W2.heap.size W2 W2 := Below.refl _ _;clear OB OF OM hR hR2 hrow hgr hc2;go_wp2;go_loopw [29] (fun i wx => ∃ j p : Nat, j ≤ (G 1 a).length ∧ i = .int .i64 j ∧ p ≤ q + j ∧ Chg (· = w.heap.size + 1 + 1) W2 wx ∧ Hid (CntAt wx (w.heap.size + 1 + 1) p (fun v => cntA (G 1) (fun u => left u) v + ((G 1 a).take j).count (v : Int)))) (fun i _ => (G 1 a).length - (intOf i).toNat)
   case atStart => exact ⟨0, q, Nat.zero_le _, rfl, by omega, Chg.refl _ _, Lib.hid (OM2.out.cast fun v _ => by simp)⟩
   case round =>
    rename_i wq;obtain ⟨j, p, hj, rfl, hp, hcx, OMx⟩ := hrel;by_cases hjt : j < (G 1 a).length
    ·have d3 : (j : Int) < ((G 1 a).length : Int) := by omega
     have hwj : IntKind.i64.wrap ((j : Int) + 1) = (j : Int) + 1 := IntWalk.i64_in _ (by omega);have hgj : (G 1 a)[j]? = some ((G 1 a).getD j 0) := by rw [List.getD_eq_getElem?_getD, List.getElem?_eq_getElem hjt]; rfl
     obtain ⟨v0, hv0, hv1⟩ := HGE.out.el 1 a _ (List.mem_of_getElem? hgj);obtain ⟨g, gc, hgv, -, -, -⟩ := row_pos HRow.out (by omega);cases hgv;have hgw : g < w.heap.size := row_lt (HG.out.each 1 a _ (by decide) hMi) rfl;have c0 := (hcx.cellAt j (show g < W2.heap.size by omega) (by omega)).trans (row_cell HRow.out (Nums_some hgj));rw [hv0] at c0;have hlk := OMx.out.get hv1;have hbd : cntA (G 1) (fun u => left u) v0 + ((G 1 a).take j).count (v0 : Int) ≤ 4198400 := by
      have h1 := cntA_le hA (fun u => left u) v0;have h2 := List.count_le_length (a := (v0 : Int)) (l := (G 1 a).take j);rw [List.length_take] at h2;omega
     obtain ⟨W3, hrun3, hc3, hk3⟩ := OMx.out.put (by unfold maxLen; omega) hv1 (cntA (G 1) (fun u => left u) v0 + ((G 1 a).take j).count (v0 : Int) + 1);rw [Int.natCast_add (cntA (G 1) (fun u => left u) v0 + ((G 1 a).take j).count (v0 : Int)) 1] at hrun3;have HC3 := Lib.hid (hc3.cast (c' := fun v => cntA (G 1) (fun u => left u) v + ((G 1 a).take (j + 1)).count (v : Int)) (fun v hv => by
      rw [take_count hjt, hv0];by_cases e : v = v0
      ·subst e; simp; omega
      ·rw [if_neg (by omega), if_neg e]; rfl))
     clear hc3;generalize cntA (G 1) (fun u => left u) v0 + ((G 1 a).take j).count (v0 : Int) = C at hlk hbd hrun3;rw [show ((1 : Nat) : Int) = 1 from rfl] at hrun3;have hwc : IntKind.i64.wrap ((C : Int) + 1) = (C : Int) + 1 := IntWalk.i64_in _ (by omega);go_wp2;refine ⟨⟨j + 1, p + 1, by omega, by simp, by omega, hcx.trans hk3, HC3⟩, ?_⟩;go_light; first | omega | (simp only [intOf]; omega)
    ·have hjj : j = (G 1 a).length := by omega
     subst hjj;have d3 : ¬ ((G 1 a).length : Int) < ((G 1 a).length : Int) := by omega
     have hzx := hcx.size;have hbx : Below w.heap.size w wr := hb2.trans (hcx.below _ hb2.size (fun k hk e => by omega));go_wp2
     go_roundg c2
     case measure => exact hlt2
     case rel =>
      refine ⟨_, p, Lib.hid (HR2.out.keep (hcx.block _ HR2.out.owns.lt (by have := HG.out.lb; have := (HG.out.map 1 (by decide)).lt; omega)) (hcx.block _ HR2.out.lt.1 (by omega))), by omega, Lib.hid (fun i h => hsm.out i (by simp at h; exact h.1)), hbx, by omega, Lib.hid (hcx.own OB2.out (by omega)), Lib.hid (hcx.own OF2.out (by omega)), Lib.hid (OMx.out.cast fun v hv => ?_)⟩;rw [List.take_length];rw [cntA_add (rem := fun u : Nat => left (u : Int) && decide ((u : Int) ≠ (a : Int))) (u := a) ha (by simp) v];congr 1;refine cntA_congr (fun u _ => .inl ?_) v;unfold addN;by_cases e : u = a
      ·subst e; simpa using hli.symm
      ·have : (u : Int) ≠ (a : Int) := by omega
       simp [e, this]
end Go.Proofs.YteebpnbdihcfmaaDoor
