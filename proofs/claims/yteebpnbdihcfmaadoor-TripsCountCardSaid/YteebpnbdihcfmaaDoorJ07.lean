/- Package bounds: what stands at the instructions, in memory of the analysis' own. Package bounds: merge's two loops, in plain words. Maps keyed by int, as functions: whatever the elements. The plain law of dom.order: a search in depth; whoever leads to another for the first time stands ahead of it. The plain law of dom.Tree: nearest dominators by sweeps that meet the predecessors' chains. Package flow: Reach, walked. Package flow: Edges, the function that it hands back. -/
import Derived.Test.YteebpnbdihcfmaaDoorJ06
import Derived.Test.YteebpnbdihcfmaaDoorJ02
import Derived.Maps.OwnSet
import Derived.Maps.RangeWalk
import Derived.Deep.LoopGhost
import Derived.WalkMore
set_option linter.unusedVariables false
set_option linter.unusedSimpArgs false
set_option maxRecDepth 100000
set_option maxHeartbeats 20000000
namespace Go.Proofs.YteebpnbdihcfmaaDoor
open Go.RowKit
section
/-- where it stands; tg: whose a block is (0: nobody's, 1 the state's, 2 to 5 the four rows', 6 + 2 v the spans' at v, 7 + 2 v the changes' at v) -/
structure BAd where
 k : Nat
 ib : Nat
 ic : Nat
 cb : Nat
 cc : Nat
 mb : Nat
 mc : Nat
 jb : Nat
 jc : Nat
 iv : Nat → Option (Nat × Nat)
 cv : Nat → Nat × Nat
 tg : Nat → Nat
def ivVal (regs : Nat) (o : Option (Nat × Nat)) : Value := match o with | none => .slice none 0 0 | some p => .slice (some ⟨p.1, 0, none⟩) regs p.2
def cvVal (regs : Nat) (p : Nat × Nat) : Value := .slice (some ⟨p.1, 0, none⟩) regs p.2
def BAd.cells (A : BAd) (n : Nat) : List Value := [.slice (some ⟨A.ib, 0, none⟩) n A.ic, .slice (some ⟨A.cb, 0, none⟩) n A.cc, .slice (some ⟨A.mb, 0, none⟩) n A.mc, .slice (some ⟨A.jb, 0, none⟩) n A.jc]
def ivCells (n regs : Nat) (iv : Nat → Option (Nat × Nat)) : List Value := (List.range n).map fun v => ivVal regs (iv v)
def cvCells (n regs : Nat) (cv : Nat → Nat × Nat) : List Value := (List.range n).map fun v => cvVal regs (cv v)
structure BAt (N : Nat) (W : World) (A : BAd) (n regs : Nat) (s : PBS) : Prop where
 st : Own W A.k (A.cells n)
 ri : W.ownsRow 0 40 1 (.slice (some ⟨A.ib, 0, none⟩) n A.ic) n (ivCells n regs A.iv)
 rc : W.ownsRow 0 47 1 (.slice (some ⟨A.cb, 0, none⟩) n A.cc) n (cvCells n regs A.cv)
 rm : W.ownsRow 0 4 1 (.slice (some ⟨A.mb, 0, none⟩) n A.mc) n (Bools s.mrk)
 rj : W.ownsRow 0 3 1 (.slice (some ⟨A.jb, 0, none⟩) n A.jc) n (Nums s.jn)
 ei : ∀ v, v < n → (A.iv v = none ∧ s.inn.getD v [] = []) ∨ ∃ b c, A.iv v = some (b, c) ∧ SpRow W b regs c (s.inn.getD v []) ∧ A.tg b = 6 + 2 * v
 ec : ∀ v, v < n → W.ownsRow 0 3 1 (cvVal regs (A.cv v)) regs (Nums (s.chg.getD v [])) ∧ A.tg (A.cv v).1 = 7 + 2 * v
 tk : A.tg A.k = 1
 ti : A.tg A.ib = 2
 tc : A.tg A.cb = 3
 tm : A.tg A.mb = 4
 tj : A.tg A.jb = 5
 fr : ∀ b, W.heap.size ≤ b → A.tg b = 0
 lo : ∀ b, A.tg b ≠ 0 → N ≤ b
 li : s.inn.length = n
 lc : s.chg.length = n
section
variable {N : Nat} {W W' : World} {A : BAd} {n regs : Nat} {s : PBS} {S : Nat → Prop}
theorem BAt.lm (h : BAt N W A n regs s) : s.mrk.length = n := by have := h.rm.1; simpa [Bools] using this
theorem BAt.lj (h : BAt N W A n regs s) : s.jn.length = n := by have := h.rj.1; simpa [Nums] using this
theorem rowB_chg {e size n b c m : Nat} {xs : List Value} (hc : Chg S W W') (h : W.ownsRow 0 e size (.slice (some ⟨b, 0, none⟩) n c) m xs) (hb : ¬ S b) : W'.ownsRow 0 e size (.slice (some ⟨b, 0, none⟩) n c) m xs :=
 row_chg hc h (fun k hk e => hb (by have : b = k := (by simpa [Value.ownBlock] using hk); subst this; exact e))
/-- what others write leaves it -/
theorem BAt.keep (h : BAt N W A n regs s) (hc : Chg S W W') (hS : ∀ x, S x → A.tg x = 0) : BAt N W' A n regs s := by
 have no : ∀ (b t : Nat), A.tg b = t → t ≠ 0 → ¬ S b := fun b t hb ht e => ht (by rw [← hb, hS b e]);refine ⟨hc.own h.st (no _ _ h.tk (by omega)), rowB_chg hc h.ri (no _ _ h.ti (by omega)), rowB_chg hc h.rc (no _ _ h.tc (by omega)), rowB_chg hc h.rm (no _ _ h.tm (by omega)), rowB_chg hc h.rj (no _ _ h.tj (by omega)), fun v hv => ?_, fun v hv => ?_, h.tk, h.ti, h.tc, h.tm, h.tj, fun b hb => h.fr b (Nat.le_trans hc.size hb), h.lo, h.li, h.lc⟩
 ·rcases h.ei v hv with h1 | ⟨b, c, h1, h2, h3⟩
  ·exact .inl h1
  ·exact .inr ⟨b, c, h1, h2.chg hc (no _ _ h3 (by omega)), h3⟩
 ·obtain ⟨h1, h2⟩ := h.ec v hv;exact ⟨rowB_chg hc h1 (no _ _ h2 (by omega)), h2⟩
theorem BAt.below (h : BAt N W A n regs s) (hb : Below W.heap.size W W') : BAt N W' A n regs s := h.keep (S := fun _ => False) (Chg.of hb) (fun _ e => e.elim)
theorem chgSet (W : World) (b i : Nat) (u : Value) : Chg (· = b) W (W.setCell ⟨b, i, none⟩ u) := Chg.setCell (S := (· = b)) (Chg.refl _ _) (p := ⟨b, i, none⟩) (Or.inl rfl) _
/-- a mark is written -/
theorem BAt.setM (h : BAt N W A n regs s) (v : Nat) (x : Bool) : BAt N (W.setCell ⟨A.mb, v, none⟩ (.bool x)) A n regs { s with mrk := s.mrk.set v x } := by
 have hc := chgSet W A.mb v (.bool x);have no : ∀ (b t : Nat), A.tg b = t → t ≠ 4 → ¬ (b = A.mb) := fun b t hb ht e => ht (by rw [← hb, e, h.tm]);have hm := row_set h.rm v (.bool x);have e : (Bools s.mrk).set v (.bool x) = Bools (s.mrk.set v x) := by simp [Bools, List.map_set]
 rw [e] at hm;refine ⟨hc.own h.st (no _ _ h.tk (by omega)), rowB_chg hc h.ri (no _ _ h.ti (by omega)), rowB_chg hc h.rc (no _ _ h.tc (by omega)), hm, rowB_chg hc h.rj (no _ _ h.tj (by omega)), fun v hv => ?_, fun v hv => ?_, h.tk, h.ti, h.tc, h.tm, h.tj, fun b hb => h.fr b (Nat.le_trans hc.size hb), h.lo, h.li, h.lc⟩
 ·rcases h.ei v hv with h1 | ⟨b, c, h1, h2, h3⟩
  ·exact .inl h1
  ·exact .inr ⟨b, c, h1, h2.chg hc (no _ _ h3 (by omega)), h3⟩
 ·obtain ⟨h1, h2⟩ := h.ec v hv;exact ⟨rowB_chg hc h1 (no _ _ h2 (by omega)), h2⟩
/-- how often something came is written -/
theorem BAt.setJ (h : BAt N W A n regs s) (v : Nat) (x : Int) : BAt N (W.setCell ⟨A.jb, v, none⟩ (.int .i64 x)) A n regs { s with jn := s.jn.set v x } := by
 have hc := chgSet W A.jb v (.int .i64 x);have no : ∀ (b t : Nat), A.tg b = t → t ≠ 5 → ¬ (b = A.jb) := fun b t hb ht e => ht (by rw [← hb, e, h.tj]);have hm := row_set h.rj v (.int .i64 x);have e : (Nums s.jn).set v (.int .i64 x) = Nums (s.jn.set v x) := by simp [Nums, List.map_set]
 rw [e] at hm;refine ⟨hc.own h.st (no _ _ h.tk (by omega)), rowB_chg hc h.ri (no _ _ h.ti (by omega)), rowB_chg hc h.rc (no _ _ h.tc (by omega)), rowB_chg hc h.rm (no _ _ h.tm (by omega)), hm, fun v hv => ?_, fun v hv => ?_, h.tk, h.ti, h.tc, h.tm, h.tj, fun b hb => h.fr b (Nat.le_trans hc.size hb), h.lo, h.li, h.lc⟩
 ·rcases h.ei v hv with h1 | ⟨b, c, h1, h2, h3⟩
  ·exact .inl h1
  ·exact .inr ⟨b, c, h1, h2.chg hc (no _ _ h3 (by omega)), h3⟩
 ·obtain ⟨h1, h2⟩ := h.ec v hv;exact ⟨rowB_chg hc h1 (no _ _ h2 (by omega)), h2⟩
/-- a register's changes are written -/
theorem BAt.setC (h : BAt N W A n regs s) {v : Nat} (hv : v < n) (i : Nat) (x : Int) : BAt N (W.setCell ⟨(A.cv v).1, i, none⟩ (.int .i64 x)) A n regs { s with chg := s.chg.set v ((s.chg.getD v []).set i x) } := by
 have hc := chgSet W (A.cv v).1 i (.int .i64 x);have hlc := h.lc;obtain ⟨hrow, htag⟩ := h.ec v hv;have no : ∀ (b t : Nat), A.tg b = t → t ≠ 7 + 2 * v → ¬ (b = (A.cv v).1) := fun b t hb ht e => ht (by rw [← hb, e, htag]);have hm := row_set hrow i (.int .i64 x);have e : (Nums (s.chg.getD v [])).set i (.int .i64 x) = Nums ((s.chg.getD v []).set i x) := by simp [Nums, List.map_set]
 rw [e] at hm;refine ⟨hc.own h.st (no _ _ h.tk (by omega)), rowB_chg hc h.ri (no _ _ h.ti (by omega)), rowB_chg hc h.rc (no _ _ h.tc (by omega)), rowB_chg hc h.rm (no _ _ h.tm (by omega)), rowB_chg hc h.rj (no _ _ h.tj (by omega)), fun u hu => ?_, fun u hu => ?_, h.tk, h.ti, h.tc, h.tm, h.tj, fun b hb => h.fr b (Nat.le_trans hc.size hb), h.lo, h.li, by simpa using hlc⟩
 ·rcases h.ei u hu with h1 | ⟨b, c, h1, h2, h3⟩
  ·exact .inl h1
  ·exact .inr ⟨b, c, h1, h2.chg hc (no _ _ h3 (by omega)), h3⟩
 ·dsimp only;by_cases e : u = v
  ·subst e;rw [getD_set _ _ _ _ _ (by omega), if_pos rfl];exact ⟨hm, htag⟩
  ·rw [getD_set _ _ _ _ _ (by omega), if_neg e];obtain ⟨h1, h2⟩ := h.ec u hu;exact ⟨rowB_chg hc h1 (no _ _ h2 (by omega)), h2⟩
/-- a register's span is written -/
theorem BAt.setS (h : BAt N W A n regs s) {v : Nat} (hv : v < n) {b c : Nat} (hb : A.iv v = some (b, c)) {i : Nat} (hi : i < regs) (p : PSpan) : BAt N ((W.setCell ⟨b, i * 2, none⟩ (.int .i64 p.lo)).setCell ⟨b, i * 2 + 1, none⟩ (.int .i64 p.hi)) A n regs { s with inn := s.inn.set v ((s.inn.getD v []).set i p) } := by
 have hc := chg2 W b (i * 2) (i * 2 + 1) (.int .i64 p.lo) (.int .i64 p.hi);have hli := h.li;obtain ⟨hrow, htag⟩ : SpRow W b regs c (s.inn.getD v []) ∧ A.tg b = 6 + 2 * v := by
  rcases h.ei v hv with ⟨h1, _⟩ | ⟨b', c', h1, h2, h3⟩
  ·rw [hb] at h1; cases h1
  ·rw [hb] at h1; cases h1; exact ⟨h2, h3⟩
 have no : ∀ (x t : Nat), A.tg x = t → t ≠ 6 + 2 * v → ¬ (x = b) := fun x t hx ht e => ht (by rw [← hx, e, htag]);have hm := hrow.set hi p;refine ⟨hc.own h.st (no _ _ h.tk (by omega)), rowB_chg hc h.ri (no _ _ h.ti (by omega)), rowB_chg hc h.rc (no _ _ h.tc (by omega)), rowB_chg hc h.rm (no _ _ h.tm (by omega)), rowB_chg hc h.rj (no _ _ h.tj (by omega)), fun u hu => ?_, fun u hu => ?_, h.tk, h.ti, h.tc, h.tm, h.tj, fun b hb => h.fr b (Nat.le_trans hc.size hb), h.lo, by simpa using hli, h.lc⟩
 ·dsimp only;by_cases e : u = v
  ·subst e;rw [getD_set _ _ _ _ _ (by omega), if_pos rfl];exact .inr ⟨b, c, hb, hm, htag⟩
  ·rw [getD_set _ _ _ _ _ (by omega), if_neg e];rcases h.ei u hu with h1 | ⟨b, c, h1, h2, h3⟩
   ·exact .inl h1
   ·exact .inr ⟨b, c, h1, h2.chg hc (no _ _ h3 (by omega)), h3⟩
 ·obtain ⟨h1, h2⟩ := h.ec u hu;exact ⟨rowB_chg hc h1 (no _ _ h2 (by omega)), h2⟩
def updF {α : Type} (g : Nat → α) (i : Nat) (x : α) : Nat → α := fun j => if j = i then x else g j
theorem updF_self {α : Type} (g : Nat → α) (i : Nat) (x : α) : updF g i x i = x := if_pos rfl
theorem updF_ne {α : Type} (g : Nat → α) {i j : Nat} (x : α) (h : j ≠ i) : updF g i x j = g j := if_neg h
theorem ivCells_set (n regs : Nat) (iv : Nat → Option (Nat × Nat)) (v : Nat) (o : Option (Nat × Nat)) : (ivCells n regs iv).set v (ivVal regs o) = ivCells n regs (updF iv v o) := by
 unfold ivCells;apply List.ext_getElem?;intro i;by_cases e : i = v
 ·subst e;by_cases h : i < n
  ·rw [List.getElem?_set_self (by simpa using h)];simp [h, updF]
  ·rw [List.set_eq_of_length_le (by simp; omega)];simp [h]
 ·rw [List.getElem?_set_ne (by omega)];by_cases h : i < n
  ·rw [List.getElem?_map, List.getElem?_map, List.getElem?_range h];simp [updF, e]
  ·rw [List.getElem?_eq_none (by simp; omega), List.getElem?_eq_none (by simp; omega)]
/-- the spans at an instruction at which nothing stood -/
theorem BAt.setI (h : BAt N W A n regs s) {v : Nat} (hv : v < n) {b c : Nat} {next : List PSpan} (hr : SpRow W b regs c next) (hb : A.tg b = 0) (hN : N ≤ b) : BAt N (W.setCell ⟨A.ib, v, none⟩ (.slice (some ⟨b, 0, none⟩) regs c)) { A with iv := updF A.iv v (some (b, c)), tg := updF A.tg b (6 + 2 * v) } n regs { s with inn := s.inn.set v next } := by
 have hc := chgSet W A.ib v (.slice (some ⟨b, 0, none⟩) regs c);have hli := h.li;have no : ∀ (x t : Nat), A.tg x = t → t ≠ 2 → ¬ (x = A.ib) := fun x t hx ht e => ht (by rw [← hx, e, h.ti]);have tn : ∀ (x t : Nat), A.tg x = t → t ≠ 0 → updF A.tg b (6 + 2 * v) x = t := fun x t hx ht => by rw [updF_ne _ _ (fun e => ht (by rw [← hx, e, hb])), hx]
 have hm := row_set h.ri v (.slice (some ⟨b, 0, none⟩) regs c);have e := ivCells_set n regs A.iv v (some (b, c));rw [show ivVal regs (some (b, c)) = .slice (some ⟨b, 0, none⟩) regs c from rfl] at e;rw [e] at hm;have hbl := hr.lt;refine ⟨hc.own h.st (no _ _ h.tk (by omega)), hm, rowB_chg hc h.rc (no _ _ h.tc (by omega)), rowB_chg hc h.rm (no _ _ h.tm (by omega)), rowB_chg hc h.rj (no _ _ h.tj (by omega)), fun u hu => ?_, fun u hu => ?_, tn _ _ h.tk (by omega), tn _ _ h.ti (by omega), tn _ _ h.tc (by omega), tn _ _ h.tm (by omega), tn _ _ h.tj (by omega), fun x hx => ?_, fun x hx => ?_, by simpa using hli, h.lc⟩
 ·dsimp only;by_cases e : u = v
  ·subst e;rw [getD_set _ _ _ _ _ (by omega), if_pos rfl, updF_self];exact .inr ⟨b, c, rfl, hr.chg hc (no _ _ hb (by omega)), updF_self _ _ _⟩
  ·rw [getD_set _ _ _ _ _ (by omega), if_neg e, updF_ne _ _ e];rcases h.ei u hu with h1 | ⟨b', c', h1, h2, h3⟩
   ·exact .inl h1
   ·exact .inr ⟨b', c', h1, h2.chg hc (no _ _ h3 (by omega)), tn _ _ h3 (by omega)⟩
 ·obtain ⟨h1, h2⟩ := h.ec u hu;exact ⟨rowB_chg hc h1 (no _ _ h2 (by omega)), tn _ _ h2 (by omega)⟩
 ·have h3 : W.heap.size ≤ x := Nat.le_trans hc.size hx;dsimp only;rw [updF_ne _ _ (by omega)];exact h.fr x h3
 ·dsimp only at hx;by_cases e : x = b
  ·subst e; exact hN
  ·rw [updF_ne _ _ e] at hx;exact h.lo x hx
/-- as it is read -/
theorem BAt.rd (h : BAt N W A n regs s) {v : Nat} (hv : v < n) : W.cell? ⟨A.ib, v, none⟩ = some (ivVal regs (A.iv v)) ∧ W.cell? ⟨A.cb, v, none⟩ = some (cvVal regs (A.cv v)) ∧ W.cell? ⟨A.mb, v, none⟩ = some (.bool (s.mrk.getD v false)) ∧ W.cell? ⟨A.jb, v, none⟩ = some (.int .i64 (s.jn.getD v 0)) := by
 have hm := h.lm;have hj := h.lj;refine ⟨row_cell h.ri (by simp [ivCells, hv]), row_cell h.rc (by simp [cvCells, hv]), row_cell h.rm ?_, row_cell h.rj ?_⟩
 ·unfold Bools; rw [List.getElem?_map, List.getD_eq_getElem?_getD, List.getElem?_eq_getElem (by omega)]; rfl
 ·unfold Nums; rw [List.getElem?_map, List.getD_eq_getElem?_getD, List.getElem?_eq_getElem (by omega)]; rfl
theorem BAt.fz (h : BAt N W A n regs s) (v : Nat) : W.frozen? ⟨A.ib, v, none⟩ = false ∧ W.frozen? ⟨A.mb, v, none⟩ = false ∧ W.frozen? ⟨A.jb, v, none⟩ = false := ⟨h.ri.frozenAt _, h.rm.frozenAt _, h.rj.frozenAt _⟩
theorem BAt.rdC (h : BAt N W A n regs s) {v : Nat} (hv : v < n) {i : Nat} (hi : i < regs) : W.cell? ⟨(A.cv v).1, i, none⟩ = some (.int .i64 ((s.chg.getD v []).getD i 0)) ∧ W.frozen? ⟨(A.cv v).1, i, none⟩ = false := by
 obtain ⟨h1, _⟩ := h.ec v hv;have hl : (s.chg.getD v []).length = regs := by have := h1.1; simpa [Nums] using this
 unfold cvVal at h1;refine ⟨row_cell h1 ?_, h1.frozenAt _⟩;unfold Nums; rw [List.getElem?_map, List.getD_eq_getElem?_getD (l := s.chg.getD v []), List.getElem?_eq_getElem (by omega)]; rfl
theorem BAt.rdS (h : BAt N W A n regs s) {v : Nat} (hv : v < n) {b c : Nat} (hb : A.iv v = some (b, c)) : SpRow W b regs c (s.inn.getD v []) ∧ A.tg b = 6 + 2 * v := by
 rcases h.ei v hv with ⟨h1, _⟩ | ⟨b', c', h1, h2, h3⟩
 ·rw [hb] at h1; cases h1
 ·rw [hb] at h1; cases h1; exact ⟨h2, h3⟩
end
end
section
def chgTo (old next : List PSpan) (c : List Int) (j : Nat) : List Int := (List.range c.length).map fun i => if i < j ∧ growB (old.getD i default) (next.getD i default) = true then wrap64 (c.getD i 0 + 1) else c.getD i 0
def someTo (old next : List PSpan) (j : Nat) : Bool := (List.range j).any fun i => growB (old.getD i default) (next.getD i default)
def innTo (thr : List Int) (jv : Int) (old next : List PSpan) (j : Nat) : List PSpan := (List.range old.length).map fun i => if i < j then mergeOne thr jv (old.getD i default) (next.getD i default) else old.getD i default
theorem range_getD {α : Type} (l : List α) (d : α) : (List.range l.length).map (fun i => l.getD i d) = l := by
 apply List.ext_getElem?;intro i;by_cases h : i < l.length
 ·simp [h, List.getD_eq_getElem?_getD]
 ·simp [h]
theorem chgTo_zero (old next : List PSpan) (c : List Int) : chgTo old next c 0 = c := by
 unfold chgTo;simp only [Nat.not_lt_zero, false_and, if_false];exact range_getD c 0
theorem innTo_zero (thr : List Int) (jv : Int) (old next : List PSpan) : innTo thr jv old next 0 = old := by
 unfold innTo;simp only [Nat.not_lt_zero, if_false];exact range_getD old default
theorem chgTo_len (old next : List PSpan) (c : List Int) (j : Nat) : (chgTo old next c j).length = c.length := by simp [chgTo]
theorem innTo_len (thr : List Int) (jv : Int) (old next : List PSpan) (j : Nat) : (innTo thr jv old next j).length = old.length := by simp [innTo]
theorem chgTo_at (old next : List PSpan) (c : List Int) {j : Nat} (hj : j < c.length) : (chgTo old next c j).getD j 0 = c.getD j 0 := by
 unfold chgTo;rw [getD_mapR _ _ _ _ hj, if_neg (by omega)]
theorem innTo_at (thr : List Int) (jv : Int) (old next : List PSpan) {j : Nat} (hj : j < old.length) : (innTo thr jv old next j).getD j default = old.getD j default := by
 unfold innTo;rw [getD_mapR _ _ _ _ hj, if_neg (by omega)]
theorem chgTo_yes (old next : List PSpan) (c : List Int) {j : Nat} (hj : j < c.length) (hg : growB (old.getD j default) (next.getD j default) = true) : chgTo old next c (j + 1) = (chgTo old next c j).set j (wrap64 (c.getD j 0 + 1)) := by
 apply List.ext_getElem?;intro i;by_cases e : i = j
 ·subst e;rw [List.getElem?_set_self (by rw [chgTo_len]; exact hj)];unfold chgTo;rw [List.getElem?_map, List.getElem?_range hj];simp only [Option.map_some];rw [if_pos ⟨by omega, hg⟩]
 ·rw [List.getElem?_set_ne (by omega)];unfold chgTo;by_cases h : i < c.length
  ·rw [List.getElem?_map, List.getElem?_map, List.getElem?_range h];simp only [Option.map_some];have : (i < j + 1) ↔ i < j := by omega
   simp only [this]
  ·rw [List.getElem?_eq_none (by simp; omega), List.getElem?_eq_none (by simp; omega)]
theorem chgTo_no (old next : List PSpan) (c : List Int) {j : Nat} (hg : growB (old.getD j default) (next.getD j default) = false) : chgTo old next c (j + 1) = chgTo old next c j := by
 unfold chgTo;apply List.map_congr_left;intro i _;by_cases e : i = j
 ·subst e;rw [if_neg (fun h => by rw [hg] at h; exact absurd h.2 (by decide)), if_neg (fun h => by omega)]
 ·have : (i < j + 1) ↔ i < j := by omega
  simp only [this]
theorem chgTo_end (old next : List PSpan) (c : List Int) : chgTo old next c old.length = chgNext old next c := rfl
theorem someTo_zero (old next : List PSpan) : someTo old next 0 = false := rfl
theorem someTo_succ (old next : List PSpan) (j : Nat) : someTo old next (j + 1) = (someTo old next j || growB (old.getD j default) (next.getD j default)) := by
 unfold someTo;rw [List.range_succ, List.any_append];simp
theorem chgTo_none (old next : List PSpan) (c : List Int) : ∀ j : Nat, someTo old next j = false → chgTo old next c j = c
 | 0, _ => chgTo_zero old next c
 | j + 1, h => by
  rw [someTo_succ, Bool.or_eq_false_iff] at h;rw [chgTo_no old next c h.2];exact chgTo_none old next c j h.1
theorem innTo_step (thr : List Int) (jv : Int) (old next : List PSpan) {j : Nat} (hj : j < old.length) : innTo thr jv old next (j + 1) = (innTo thr jv old next j).set j (mergeOne thr jv (old.getD j default) (next.getD j default)) := by
 apply List.ext_getElem?;intro i;by_cases e : i = j
 ·subst e;rw [List.getElem?_set_self (by rw [innTo_len]; exact hj)];unfold innTo;rw [List.getElem?_map, List.getElem?_range hj];simp only [Option.map_some];rw [if_pos (by omega)]
 ·rw [List.getElem?_set_ne (by omega)];unfold innTo;by_cases h : i < old.length
  ·rw [List.getElem?_map, List.getElem?_map, List.getElem?_range h];simp only [Option.map_some];have : (i < j + 1) ↔ i < j := by omega
   simp only [this]
  ·rw [List.getElem?_eq_none (by simp; omega), List.getElem?_eq_none (by simp; omega)]
theorem innTo_end (thr : List Int) (jv : Int) (old next : List PSpan) : innTo thr jv old next old.length = innNext thr jv old next := by
 unfold innTo innNext;apply List.map_congr_left;intro i hi;rw [if_pos (List.mem_range.1 hi)]
section
variable {N : Nat} {W : World} {A : BAd} {n regs : Nat} {s : PBS}
theorem BAt.setC2 {v : Nat} {L : List Int} (h : BAt N W A n regs { s with chg := s.chg.set v L }) (hv : v < n) (i : Nat) (x : Int) : BAt N (W.setCell ⟨(A.cv v).1, i, none⟩ (.int .i64 x)) A n regs { s with chg := s.chg.set v (L.set i x) } := by
 have h1 := h.setC hv i x;have hl := h.lc;dsimp only at h1 hl;rw [List.length_set] at hl;rw [getD_set _ _ _ _ _ (by omega), if_pos rfl, List.set_set] at h1;exact h1
theorem BAt.setS2 {v : Nat} {L : List PSpan} (h : BAt N W A n regs { s with inn := s.inn.set v L }) (hv : v < n) {b c : Nat} (hb : A.iv v = some (b, c)) {i : Nat} (hi : i < regs) (p : PSpan) : BAt N ((W.setCell ⟨b, i * 2, none⟩ (.int .i64 p.lo)).setCell ⟨b, i * 2 + 1, none⟩ (.int .i64 p.hi)) A n regs { s with inn := s.inn.set v (L.set i p) } := by
 have h1 := h.setS hv hb hi p;have hl := h.li;dsimp only at h1 hl;rw [List.length_set] at hl;rw [getD_set _ _ _ _ _ (by omega), if_pos rfl, List.set_set] at h1;exact h1
theorem set_getD {α : Type} (l : List α) (i : Nat) (d : α) : l.set i (l.getD i d) = l := by
 apply List.ext_getElem?;intro j;by_cases e : j = i
 ·subst e;by_cases h : j < l.length
  ·rw [List.getElem?_set_self h, List.getD_eq_getElem?_getD, List.getElem?_eq_getElem h]; rfl
  ·rw [List.set_eq_of_length_le (by omega)]
 ·rw [List.getElem?_set_ne (by omega)]
end
end
end Go.Proofs.YteebpnbdihcfmaaDoor
namespace Go.Proofs.YteebpnbdihcfmaaDoor
open Go.RowKit
open Go.Maps (Keyed)
def rawR (v : Value) : Option (DataW Value × List MemPlace) := some (.held v, [])
theorem rawR_inv {v u : Value} {ps : List MemPlace} (h : rawR v = some (.held u, ps)) : v = u := DataW.held.inj (Prod.mk.inj (Option.some.inj h)).1
def keyI (i : Int) : Lit := .int .i64 i
def inI (i : Int) : Prop := -9223372036854775808 ≤ i ∧ i ≤ 9223372036854775807
theorem keyed_int : Keyed Tryd.prog 3 := Maps.int_keyed Tryd.underlying3
theorem key_int {i : Int} (h : inI i) : keyOf Tryd.prog 3 (.int .i64 i) = some (keyI i) := Maps.keyOf_int_mk Tryd.underlying3 (WalkArith.wf_i64 h)
theorem keyI_ne {i j : Int} (h : i ≠ j) : keyI i ≠ keyI j := fun e => h (by unfold keyI at e; injection e)
theorem keyI_lit (i : Int) : WideAt.IsKeyLit (keyI i) := trivial
theorem keyI_same (i j : Int) : (keyI i).sameKey (keyI j) = decide (i = j) := by
 by_cases h : i = j
 ·subst h; rw [WideAt.sameKey_self (keyI_lit i)]; simp
 ·rw [Maps.sameKey_ne (keyI_ne h)]; simp [h]
/-- what a datum says of a map -/
def Reads (D : DataW Value) (M : Int → Option Value) : Prop := ∀ i, inI i → (∀ z, D.atKey (keyI i) (.held z) = .held ((M i).getD z)) ∧ Maps.has D (keyI i) = (M i).isSome
/-- block b is a map of at most n entries that holds M -/
def MapAt (W : World) (b n : Nat) (M : Int → Option Value) : Prop := ∃ D : DataW Value, W.ownsMap Tryd.prog 3 rawR b n D ∧ Reads D M
def updM (M : Int → Option Value) (i : Int) (v : Value) : Int → Option Value := fun k => if k = i then some v else M k
theorem Reads.put {D : DataW Value} {M : Int → Option Value} (h : Reads D M) (hD : Maps.IsMap D) (i : Int) (v : Value) : Reads (D.put (keyI i) (.held v)) (updM M i v) := by
 intro k hk;by_cases e : k = i
 ·subst e;refine ⟨fun z => ?_, ?_⟩
  ·rw [Maps.atKey_put_same hD (keyI_lit k)]; simp [updM]
  ·rw [Maps.has_put_same hD (keyI_lit k)]; simp [updM]
 ·refine ⟨fun z => ?_, ?_⟩
  ·rw [Maps.atKey_put_other (keyI_ne e), (h k hk).1 z]; simp [updM, e]
  ·rw [Maps.has_put_other (keyI_ne e), (h k hk).2]; simp [updM, e]
section
variable {W W' : World} {b n : Nat} {M : Int → Option Value} {t e : TypeId} {z : Value}
theorem MapAt.lt (h : MapAt W b n M) : b < W.heap.size := by obtain ⟨D, h1, _⟩ := h; exact h1.lt
theorem MapAt.made (W : World) : MapAt (W.alloc (.map #[] 0)) W.heap.size 0 (fun _ => none) :=
 ⟨.map [], World.ownsMap_made _ _ _ _, fun i _ => ⟨fun z => rfl, rfl⟩⟩
theorem MapAt.mono (h : MapAt W b n M) {m : Nat} (hm : n ≤ m) : MapAt W b m M := by obtain ⟨D, h1, h2⟩ := h; exact ⟨D, h1.mono hm, h2⟩
theorem MapAt.keep (h : MapAt W b n M) (hb : W'.heap[b]? = W.heap[b]?) : MapAt W' b n M := by
 obtain ⟨D, ⟨es, clock, h1, F, hs, hD⟩, h2⟩ := h;exact ⟨D, ⟨es, clock, hb.trans h1, F, hs, hD⟩, h2⟩
theorem MapAt.below (h : MapAt W b n M) (hb : Below W.heap.size W W') : MapAt W' b n M := h.keep (hb.block b h.lt)
theorem MapAt.chg {S : Nat → Prop} (h : MapAt W b n M) (hc : Chg S W W') (hs : ¬ S b) : MapAt W' b n M := h.keep (hc.block b h.lt hs)
theorem MapAt.get (h : MapAt W b n M) (ht : Tryd.prog.underlying t = some (.map 3 e)) (hz : ∀ w, (zeroValue e).run Tryd.prog w = .ok z w) {i : Int} (hi : inI i) :
 (Instr.lookup t (.map (some b)) (.int .i64 i) false).run Tryd.prog W = .ok ((M i).getD z) W := by
 obtain ⟨D, h1, h2⟩ := h;obtain ⟨v, ps, hr, hv⟩ := h1.lookup keyed_int ht (hz W) (R := rawR) (z := z) (zd := .held z) (zp := []) rfl (key_int hi);rw [(h2 i hi).1 z] at hv;rw [hr, rawR_inv hv]
theorem MapAt.getOk (h : MapAt W b n M) (ht : Tryd.prog.underlying t = some (.map 3 e)) (hz : ∀ w, (zeroValue e).run Tryd.prog w = .ok z w) {i : Int} (hi : inI i) :
 (Instr.lookup t (.map (some b)) (.int .i64 i) true).run Tryd.prog W = .ok (.tuple #[(M i).getD z, .bool (M i).isSome]) W := by
 obtain ⟨D, h1, h2⟩ := h;obtain ⟨v, ps, hr, hv⟩ := h1.look_ok keyed_int ht (hz W) (R := rawR) (z := z) (zd := .held z) (zp := []) rfl (key_int hi);rw [(h2 i hi).1 z] at hv;rw [hr, rawR_inv hv, (h2 i hi).2]
theorem MapAt.set (h : MapAt W b n M) (ht : Tryd.prog.underlying t = some (.map 3 e)) (hn : n < maxLen) {i : Int} (hi : inI i) (v : Value) :
 ∃ W', (Instr.mapUpdate t (.map (some b)) (.int .i64 i) v).run Tryd.prog W = .ok () W' ∧ MapAt W' b (n + 1) (updM M i v) ∧ Chg (· = b) W W' := by
 obtain ⟨D, h1, h2⟩ := h;obtain ⟨W', hr, h3, hg⟩ := h1.update (R := rawR) keyed_int ht hn (key_int hi) (val := v) (d := .held v) (ps := []) rfl;exact ⟨W', hr, ⟨_, h3, h2.put h1.isMap i v⟩, (chg_grown hg).mono (fun k _ e => (Option.some.inj e).symm)⟩
theorem MapAt.uniq {n' : Nat} {M' : Int → Option Value} (h : MapAt W b n M) (h' : MapAt W b n' M') {i : Int} (hi : inI i) : M i = M' i := by
 obtain ⟨D, ⟨es, clock, h1, F, hs, hD⟩, h2⟩ := h;obtain ⟨D', ⟨es', clock', h1', F', hs', hD'⟩, h2'⟩ := h';rw [h1] at h1';injection h1' with h1';injection h1' with e1 e2;subst e1;rw [← hD] at hD';subst hD';have k1 := (h2 i hi).2;have k2 := (h2' i hi).2;have k3 := (h2 i hi).1 .nilFunc;rw [(h2' i hi).1 .nilFunc] at k3;injection k3 with k3;cases hm : M i with
 | none => cases hm' : M' i with
  | none => rfl
  | some v => rw [hm] at k1; rw [hm'] at k2; rw [k1] at k2; cases k2
 | some v => cases hm' : M' i with
  | none => rw [hm] at k1; rw [hm'] at k2; rw [k1] at k2; cases k2
  | some v' => rw [hm, hm'] at k3; exact congrArg some k3.symm
/-- a range over a map under way: those of whom left says so are still to come -/
def MapRange (W : World) (b r n : Nat) (M : Int → Option Value) (left : Int → Bool) (cnt : Nat) : Prop :=
 ∃ (D : DataW Value) (L : Lit → Bool), W.ranges Tryd.prog 3 rawR b r n D L cnt ∧ Reads D M ∧ (∀ i, inI i → L (keyI i) = left i) ∧ (∀ i, ¬ inI i → left i = false)
theorem MapRange.owns {r cnt : Nat} {left : Int → Bool} (h : MapRange W b r n M left cnt) : MapAt W b n M := by obtain ⟨D, L, h1, h2, _⟩ := h; exact ⟨D, h1.owns, h2⟩
theorem MapRange.lt {r cnt : Nat} {left : Int → Bool} (h : MapRange W b r n M left cnt) : r < W.heap.size ∧ r ≠ b := by obtain ⟨D, L, h1, h2, _⟩ := h; exact ⟨h1.lt, h1.ne⟩
theorem MapRange.keep {r cnt : Nat} {left : Int → Bool} (h : MapRange W b r n M left cnt) (hb : W'.heap[b]? = W.heap[b]?) (hr : W'.heap[r]? = W.heap[r]?) : MapRange W' b r n M left cnt := by
 obtain ⟨D, L, ⟨es, clock, since, seen, c0, h1, F, hs, hD, h2, rest⟩, h3⟩ := h;exact ⟨D, L, ⟨es, clock, since, seen, c0, hb.trans h1, F, hs, hD, hr.trans h2, rest⟩, h3⟩
theorem MapAt.range (h : MapAt W b n M) (ht : Tryd.prog.underlying t = some (.map 3 e)) (hM : ∀ i, ¬ inI i → M i = none) :
 ∃ W' cnt, (Instr.range t (.map (some b))).run Tryd.prog W = .ok (.pointer (some ⟨W.heap.size, 0, none⟩)) W' ∧ MapRange W' b W.heap.size n M (fun i => (M i).isSome) cnt ∧ Below W.heap.size W W' ∧ W'.heap.size = W.heap.size + 1 ∧ cnt ≤ n := by
 obtain ⟨D, h1, h2⟩ := h;obtain ⟨W', hr, h3, hg, hs⟩ := h1.range keyed_int ht;exact ⟨W', _, hr, ⟨D, _, h3, h2, fun i hi => (h2 i hi).2, fun i hi => by simp [hM i hi]⟩, ⟨hg.os, hg.tape, hg.output, hg.size, fun k hk => hg.block k hk (by simp)⟩, hs, h1.size_le⟩
theorem MapRange.next {r cnt : Nat} {left : Int → Bool} (h : MapRange W b r n M left cnt) (ty : TypeId) :
 ((∀ i, left i = false) ∧ (Instr.next (.pointer (some ⟨r, 0, none⟩)) false ty).run Tryd.prog W = .ok (.tuple #[.bool false]) W) ∨
 ∃ i v W' cnt', inI i ∧ left i = true ∧ M i = some v ∧ (Instr.next (.pointer (some ⟨r, 0, none⟩)) false ty).run Tryd.prog W = .ok (.tuple #[.bool true, .int .i64 i, v]) W' ∧ MapRange W' b r n M (fun k => left k && decide (k ≠ i)) cnt' ∧ cnt' < cnt ∧
  Chg (· = r) W W' ∧ W'.heap.size = W.heap.size ∧ (Instr.entry (.pointer (some ⟨r, 0, none⟩))).run Tryd.prog W' = .ok (.tuple #[.int .i64 i, v]) W' := by
 obtain ⟨D, L, h1, h2, h3, h4⟩ := h;rcases h1.next keyed_int ty with ⟨_, hl, hr⟩ | ⟨key, v, kl, y, W', cnt', hk, hL, hy, hat, hr, hrg, hlt, hg, hsz, hen⟩
 ·refine .inl ⟨fun i => ?_, hr⟩;by_cases hi : inI i
  ·rw [← h3 i hi]; exact hl _
  ·exact h4 i hi
 ·obtain ⟨i, rfl, rfl, hw⟩ := Maps.keyOf_int_inv Tryd.underlying3 hk;have hi : inI i := by
   have := hw;simp [Lit.wf, IntKind.min, IntKind.max, IntKind.signed, IntKind.bits] at this;unfold inI; omega
  unfold rawR at hy;injection hy with hy;subst hy;dsimp only at hat;have hM : M i = some v := by
   have k1 := (h2 i hi).1;have k2 := (h2 i hi).2;have e1 : ∀ z, (M i).getD z = v := fun z => by
    have := (k1 z).symm.trans (hat (.held z));injection this
   cases hm : M i with
   | none =>
    have q1 := e1 (.bool true); have q2 := e1 (.bool false);rw [hm] at q1 q2;have q3 : Value.bool true = Value.bool false := q1.trans q2.symm;cases q3
   | some u => have := e1 v; rw [hm] at this; simpa using this
  have hne : ∀ k, inI k → (fun x => L x && !x.sameKey (keyI i)) (keyI k) = (left k && decide (k ≠ i)) := fun k hk => by
   dsimp only;rw [h3 k hk, keyI_same]; simp
  refine .inr ⟨i, v, W', cnt', hi, by rw [← h3 i hi]; exact hL, hM, hr, ⟨D, _, hrg, h2, hne, fun k hk => by simp [h4 k hk]⟩, hlt, (chg_grown hg).mono (fun k _ e => (Option.some.inj e).symm), hsz, hen⟩
end
end Go.Proofs.YteebpnbdihcfmaaDoor
namespace Go.Proofs.YteebpnbdihcfmaaDoor
open Go.RowKit
def toI (l : List Nat) : List Int := l.map Int.ofNat
/-- an order of all that can be reached -/
structure OrderOk (f : PFunc) (l : List Nat) : Prop where
 nodup : l.Nodup
 mem : ∀ v : Nat, v ∈ l ↔ Rch f v
 head : l.head? = some 0
 pred : ∀ (p : List Nat) (v : Nat) (q : List Nat), l = p ++ v :: q → v ≠ 0 → ∃ u, (v : Int) ∈ nextP f u ∧ u ∈ p
structure DInv (f : PFunc) (been : List Bool) (out : List Nat) (st : List (Nat × Nat)) : Prop where
 len : been.length = f.code.length
 nodup : (st.map Prod.fst ++ out).Nodup
 bn : ∀ v : Nat, been[v]? = some true ↔ v ∈ st.map Prod.fst ++ out
 rch : ∀ v : Nat, v ∈ st.map Prod.fst ++ out → Rch f v
 way : ∀ p ∈ st, p.2 ≤ (nextP f p.1).length ∧ ∀ (i : Nat) (x : Int), i < p.2 → (nextP f p.1)[i]? = some x → x.toNat ∈ st.map Prod.fst ++ out
 full : ∀ v ∈ out, ∀ x ∈ nextP f v, x.toNat ∈ st.map Prod.fst ++ out
 adj : ∀ (p : List (Nat × Nat)) (x y : Nat × Nat) (q : List (Nat × Nat)), st = p ++ x :: y :: q → (y.1 : Int) ∈ nextP f x.1
 ot : ∀ (p : List Nat) (v : Nat) (q : List Nat), out = p ++ v :: q → v ≠ 0 → ∃ u, (v : Int) ∈ nextP f u ∧ (u ∈ q ∨ u ∈ st.map Prod.fst)
 bot : st = [] ∧ out.getLast? = some 0 ∨ ∃ w q, st = (0, w) :: q
theorem DInv.lt {f : PFunc} {been : List Bool} {out : List Nat} {st : List (Nat × Nat)} (h : DInv f been out st) {v : Nat} (hv : v ∈ st.map Prod.fst ++ out) : v < f.code.length := by
 have := (h.bn v).2 hv;rw [← h.len];exact (List.getElem?_eq_some_iff.1 this).1
theorem DInv.start (f : PFunc) (h0 : 0 < f.code.length) : DInv f ((List.replicate f.code.length false).set 0 true) [] [(0, 0)] := by
 refine ⟨by simp, by simp, fun v => ?_, fun v hv => ?_, fun p hp => ?_, by simp, ?_, by simp, .inr ⟨0, [], rfl⟩⟩
 ·by_cases e : v = 0
  ·subst e; simp [h0]
  ·rw [List.getElem?_set_ne (by omega)];constructor
   ·intro k; simp [List.getElem?_replicate] at k
   ·intro k; simp at k; omega
 ·simp at hv; subst hv; exact .zero
 ·simp at hp; subst hp; simp
 ·intro p x y q e;have := congrArg List.length e;simp at this;omega
/-- the top is done -/
theorem DInv.finish {f : PFunc} {been : List Bool} {out : List Nat} {st : List (Nat × Nat)} {a w : Nat} (h : DInv f been out (st ++ [(a, w)])) (hw : w = (nextP f a).length) : DInv f been (out ++ [a]) st := by
 have hm : ∀ v, v ∈ (st ++ [(a, w)]).map Prod.fst ++ out ↔ v ∈ st.map Prod.fst ++ (out ++ [a]) := by
  intro v; simp only [List.map_append, List.map_cons, List.map_nil, List.mem_append, List.mem_cons, List.not_mem_nil, or_false]; grind
 refine ⟨h.len, ?_, fun v => (h.bn v).trans (hm v), fun v hv => h.rch v ((hm v).2 hv), fun p hp => ?_, fun v hv x hx => ?_, ?_, ?_, ?_⟩
 ·have := h.nodup;simp only [List.map_append, List.map_cons, List.map_nil] at this;refine (List.Perm.nodup_iff ?_).1 this;rw [List.append_assoc];exact List.Perm.append_left _ List.perm_append_comm
 ·have := h.way p (by simp [hp]);exact ⟨this.1, fun i x hi hx => (hm _).1 (this.2 i x hi hx)⟩
 ·rcases List.mem_append.1 hv with k | k
  ·exact (hm _).1 (h.full v k x hx)
  ·simp at k; subst k;have := h.way (v, w) (by simp);obtain ⟨i, hi, he⟩ := List.getElem_of_mem hx;exact (hm _).1 (this.2 i x (by dsimp only; omega) (by rw [← he, List.getElem?_eq_getElem hi]))
 ·intro p x y q e;exact h.adj p x y (q ++ [(a, w)]) (by rw [e]; simp)
 ·intro p v q e hv;rcases List.eq_nil_or_concat q with rfl | ⟨q', z, rfl⟩
  ·obtain ⟨rfl, e2⟩ := List.append_inj' e rfl;simp at e2; subst e2;rcases List.eq_nil_or_concat st with rfl | ⟨s', b, rfl⟩
   ·rcases h.bot with ⟨k, _⟩ | ⟨w', q', k⟩
    ·simp at k
    ·simp at k; exact absurd k.1.1 hv
   ·refine ⟨b.1, h.adj s' b (a, w) [] (by simp), .inr (by simp)⟩
  ·rw [List.concat_eq_append] at e;have e' : out ++ [a] = (p ++ v :: q') ++ [z] := by rw [e]; simp
   obtain ⟨e1, e2⟩ := List.append_inj' e' rfl;simp at e2; subst e2;obtain ⟨u, h1, h2⟩ := h.ot p v q' e1 hv;refine ⟨u, h1, ?_⟩;rw [List.concat_eq_append];simp only [List.map_append, List.map_cons, List.map_nil, List.mem_append, List.mem_cons, List.not_mem_nil, or_false] at h2 ⊢
   grind
 ·rcases st with _ | ⟨s, st⟩
  ·left;refine ⟨rfl, ?_⟩;rcases h.bot with ⟨k, _⟩ | ⟨w', q', k⟩
   ·simp at k
   ·simp at k; simp [k.1.1]
  ·right;rcases h.bot with ⟨k, _⟩ | ⟨w', q', k⟩
   ·simp at k
   ·simp at k; exact ⟨w', st, by rw [k.1]⟩
/-- the top looks at its next way, which leads to one that has been met -/
theorem DInv.look {f : PFunc} {been : List Bool} {out : List Nat} {st : List (Nat × Nat)} {a w : Nat} (h : DInv f been out (st ++ [(a, w)])) {x : Int} (hx : (nextP f a)[w]? = some x) (hb : been[x.toNat]? = some true) : DInv f been out (st ++ [(a, w + 1)]) := by
 have hm : ∀ v, v ∈ (st ++ [(a, w)]).map Prod.fst ++ out ↔ v ∈ (st ++ [(a, w + 1)]).map Prod.fst ++ out := by intro v; simp
 have hwl : w < (nextP f a).length := (List.getElem?_eq_some_iff.1 hx).1;refine ⟨h.len, by simpa using h.nodup, fun v => (h.bn v).trans (hm v), fun v hv => h.rch v ((hm v).2 hv), fun p hp => ?_, fun v hv y hy => (hm _).1 (h.full v hv y hy), ?_, ?_, ?_⟩
 ·rcases List.mem_append.1 hp with k | k
  ·have := h.way p (by simp [k]);exact ⟨this.1, fun i y hi hy => (hm _).1 (this.2 i y hi hy)⟩
  ·simp at k; subst k;refine ⟨hwl, fun i y hi hy => ?_⟩;by_cases e : i = w
   ·subst e;rw [hx] at hy; injection hy with hy; subst hy;exact (hm _).1 ((h.bn _).1 hb)
   ·exact (hm _).1 ((h.way (a, w) (by simp)).2 i y (by dsimp only at hi ⊢; omega) hy)
 ·intro p y z q e;rcases List.eq_nil_or_concat q with rfl | ⟨q', t, rfl⟩
  ·have e' : st ++ [(a, w + 1)] = (p ++ [y]) ++ [z] := by rw [e]; simp
   obtain ⟨e1, e2⟩ := List.append_inj' e' rfl;simp at e2; subst e2;exact h.adj p y (a, w) [] (by rw [e1]; simp)
  ·rw [List.concat_eq_append] at e;have e' : st ++ [(a, w + 1)] = (p ++ y :: z :: q') ++ [t] := by rw [e]; simp
   obtain ⟨e1, _⟩ := List.append_inj' e' rfl;exact h.adj p y z (q' ++ [(a, w)]) (by rw [e1]; simp)
 ·intro p v q e hv;obtain ⟨u, h1, h2⟩ := h.ot p v q e hv;exact ⟨u, h1, by simpa using h2⟩
 ·right;rcases h.bot with ⟨k, _⟩ | ⟨w', q', k⟩
  ·simp at k
  ·rcases st with _ | ⟨s, st⟩
   ·simp at k; exact ⟨w + 1, [], by simp [k.1.1]⟩
   ·simp at k; exact ⟨w', st ++ [(a, w + 1)], by rw [k.1]; rfl⟩
/-- a new one is met -/
theorem DInv.meet {f : PFunc} {been : List Bool} {out : List Nat} {st : List (Nat × Nat)} {a w : Nat} (h : DInv f been out (st ++ [(a, w)])) {x : Int} (hx : (nextP f a)[w]? = some x) (hb : been[x.toNat]? = some false) : DInv f (been.set x.toNat true) out (st ++ [(a, w + 1), (x.toNat, 0)]) := by
 have hxm : x ∈ nextP f a := List.mem_of_getElem? hx;have hxr := nextP_in f a x hxm;have hxn : ((x.toNat : Nat) : Int) = x := by omega
 have hwl : w < (nextP f a).length := (List.getElem?_eq_some_iff.1 hx).1;have hnew : x.toNat ∉ (st ++ [(a, w)]).map Prod.fst ++ out := fun k => by rw [(h.bn _).2 k] at hb; cases hb
 have hm : ∀ v, v ∈ (st ++ [(a, w + 1), (x.toNat, 0)]).map Prod.fst ++ out ↔ v ∈ (st ++ [(a, w)]).map Prod.fst ++ out ∨ v = x.toNat := by
  intro v; simp only [List.map_append, List.map_cons, List.map_nil, List.mem_append, List.mem_cons, List.not_mem_nil, or_false]; grind
 have hl : x.toNat < been.length := by rw [h.len]; omega
 refine ⟨by rw [List.length_set]; exact h.len, ?_, fun v => ?_, fun v hv => ?_, fun p hp => ?_, fun v hv y hy => (hm _).2 (.inl (h.full v hv y hy)), ?_, ?_, ?_⟩
 ·have h1 : ((st ++ [(a, w)]).map Prod.fst ++ out).Nodup := h.nodup;have h2 : (x.toNat :: ((st ++ [(a, w)]).map Prod.fst ++ out)).Nodup := List.nodup_cons.2 ⟨hnew, h1⟩;refine (List.Perm.nodup_iff ?_).1 h2;simp only [List.map_append, List.map_cons, List.map_nil, List.append_assoc];have : (x.toNat :: (st.map Prod.fst ++ ([a] ++ out))).Perm (st.map Prod.fst ++ (x.toNat :: ([a] ++ out))) := List.perm_middle.symm;refine this.trans (List.Perm.append_left _ ?_);exact (List.Perm.swap a x.toNat out)
 ·rw [hm];by_cases e : v = x.toNat
  ·subst e; rw [List.getElem?_set_self hl]; simp
  ·rw [List.getElem?_set_ne (by omega), h.bn]; simp [e]
 ·rcases (hm v).1 hv with k | k
  ·exact h.rch v k
  ·subst k;exact .step a _ (h.rch a (by simp)) (by rw [hxn]; exact hxm)
 ·rcases List.mem_append.1 hp with k | k
  ·have := h.way p (by simp [k]);exact ⟨this.1, fun i y hi hy => (hm _).2 (.inl (this.2 i y hi hy))⟩
  ·simp at k;rcases k with rfl | rfl
   ·refine ⟨hwl, fun i y hi hy => ?_⟩;by_cases e : i = w
    ·subst e;rw [hx] at hy; injection hy with hy; subst hy;exact (hm _).2 (.inr rfl)
    ·exact (hm _).2 (.inl ((h.way (a, w) (by simp)).2 i y (by dsimp only at hi ⊢; omega) hy))
   ·exact ⟨Nat.zero_le _, fun i y hi _ => by simp at hi⟩
 ·intro p y z q e;rcases List.eq_nil_or_concat q with rfl | ⟨q', t, rfl⟩
  ·have e' : (st ++ [(a, w + 1)]) ++ [(x.toNat, 0)] = (p ++ [y]) ++ [z] := by simpa using e
   obtain ⟨e1, e2⟩ := List.append_inj' e' rfl;obtain ⟨e3, e4⟩ := List.append_inj' e1 rfl;simp at e2 e4; subst e2 e4;show ((x.toNat : Nat) : Int) ∈ nextP f a;rw [hxn]; exact hxm
  ·rw [List.concat_eq_append] at e;have e' : (st ++ [(a, w + 1)]) ++ [(x.toNat, 0)] = (p ++ y :: z :: q') ++ [t] := by simpa using e
   obtain ⟨e1, _⟩ := List.append_inj' e' rfl;rcases List.eq_nil_or_concat q' with rfl | ⟨q2, t2, rfl⟩
   ·have e2 : st ++ [(a, w + 1)] = (p ++ [y]) ++ [z] := by rw [e1]; simp
    obtain ⟨e3, e4⟩ := List.append_inj' e2 rfl;simp at e4; subst e4;exact h.adj p y (a, w) [] (by rw [e3]; simp)
   ·rw [List.concat_eq_append] at e1;have e2 : st ++ [(a, w + 1)] = (p ++ y :: z :: q2) ++ [t2] := by rw [e1]; simp
    obtain ⟨e3, _⟩ := List.append_inj' e2 rfl;exact h.adj p y z (q2 ++ [(a, w)]) (by rw [e3]; simp)
 ·intro p v q e hv;obtain ⟨u, h1, h2⟩ := h.ot p v q e hv;refine ⟨u, h1, ?_⟩;simp only [List.map_append, List.map_cons, List.map_nil, List.mem_append, List.mem_cons, List.not_mem_nil, or_false] at h2 ⊢
  grind
 ·right;rcases h.bot with ⟨k, _⟩ | ⟨w', q', k⟩
  ·simp at k
  ·rcases st with _ | ⟨s, st⟩
   ·simp at k; exact ⟨w + 1, [(x.toNat, 0)], by simp [k.1.1]⟩
   ·simp at k; exact ⟨w', st ++ [(a, w + 1), (x.toNat, 0)], by rw [k.1]; rfl⟩
theorem DInv.done {f : PFunc} {been : List Bool} {out : List Nat} (h : DInv f been out []) : OrderOk f out.reverse := by
 have hl : out.getLast? = some 0 := by rcases h.bot with ⟨_, k⟩ | ⟨w, q, k⟩; exact k; simp at k
 have h0 : 0 ∈ out := List.mem_of_getLast? hl;refine ⟨(List.Perm.nodup_iff (List.reverse_perm out)).2 (by simpa using h.nodup), fun v => ?_, by simpa using hl, ?_⟩
 ·rw [List.mem_reverse];constructor
  ·intro k; exact h.rch v (by simpa using k)
  ·intro k
   induction k with
   | zero => exact h0
   | step u v _ h2 ih => have := h.full u ih v h2; simpa using this
 ·intro p v q e hv;have e2 : out = q.reverse ++ v :: p.reverse := by
   have := congrArg List.reverse e;simpa using this
  obtain ⟨u, h1, h2⟩ := h.ot _ v _ e2 hv;exact ⟨u, h1, by simpa using h2⟩
/-- rounds still to come -/
def dLeft (been : List Bool) (st : List (Nat × Nat)) : Nat := 4 * been.count false + (st.map fun p => 3 - p.2).sum
theorem dLeft_finish {been : List Bool} {st : List (Nat × Nat)} {a w : Nat} (hw : w ≤ 2) : dLeft been st < dLeft been (st ++ [(a, w)]) := by
 unfold dLeft; simp; omega
theorem dLeft_look {been : List Bool} {st : List (Nat × Nat)} {a w : Nat} (hw : w < 2) : dLeft been (st ++ [(a, w + 1)]) < dLeft been (st ++ [(a, w)]) := by
 unfold dLeft; simp; omega
theorem dLeft_meet {been : List Bool} {st : List (Nat × Nat)} {a w v : Nat} (hw : w < 2) (hv : been[v]? = some false) : dLeft (been.set v true) (st ++ [(a, w + 1), (v, 0)]) < dLeft been (st ++ [(a, w)]) := by
 have := count_set hv;unfold dLeft; simp; omega
section
/-- a graph whose vertices are ranked -/
structure Grf (E : Nat → Nat → Prop) (R : Nat → Prop) (rk : Nat → Nat) : Prop where
 r0 : R 0
 z : rk 0 = 0
 e : ∀ u v, E u v → R u ∧ R v
 inj : ∀ u v, R u → R v → rk u = rk v → u = v
 pred : ∀ v, R v → v ≠ 0 → ∃ u, E u v ∧ rk u < rk v
/-- what stands above a vertex -/
inductive Ch (nr : Nat → Int) : Nat → Nat → Prop
 | self (v : Nat) : Ch nr v v
 | up (v u x : Nat) : v ≠ 0 → nr v = (u : Int) → Ch nr u x → Ch nr v x
/-- a way on which x is not met behind the beginning -/
inductive Wx (E : Nat → Nat → Prop) (x : Nat) (a : Nat) : Nat → Prop
 | refl : Wx E x a a
 | step (u w : Nat) : Wx E x a u → E u w → w ≠ x → Wx E x a w
theorem Wx.trans {E : Nat → Nat → Prop} {x a b c : Nat} (h1 : Wx E x a b) (h2 : Wx E x b c) : Wx E x a c := by
 induction h2 with
 | refl => exact h1
 | step u w _ he hx ih => exact .step u w ih he hx
structure NInv (E : Nat → Nat → Prop) (R : Nat → Prop) (rk : Nat → Nat) (nr : Nat → Int) (pos : Nat) : Prop where
 z : nr 0 = 0
 tr : ∀ v u : Nat, v ≠ 0 → nr v = (u : Int) → R v ∧ R u ∧ 0 ≤ nr u ∧ rk u < rk v
 dr : ∀ v u, 0 ≤ nr v → R u → rk u < rk v → 0 ≤ nr u
 dn : ∀ v, R v → rk v < pos → 0 ≤ nr v
 i1 : ∀ v x, 0 ≤ nr v → ¬ Ch nr v x → x ≠ 0 ∧ Wx E x 0 v
 i2 : ∀ w a x, 0 ≤ nr w → Ch nr w a → Ch nr a x → x ≠ a → Wx E x a w
 i4 : ∀ v y x : Nat, v ≠ 0 → nr v = (y : Int) → (∀ u, E u v → 0 ≤ nr u → Ch nr u x) → Ch nr y x
 i5 : ∀ v y u x : Nat, v ≠ 0 → nr v = (y : Int) → E u v → rk u < rk v → Ch nr y x → (rk v < pos ∨ pos ≤ rk x) → Ch nr u x
theorem Ch.trans {nr : Nat → Int} {a b c : Nat} (h1 : Ch nr a b) (h2 : Ch nr b c) : Ch nr a c := by
 induction h1 with
 | self => exact h2
 | up v u x h0 he _ ih => exact .up v u c h0 he (ih h2)
theorem Ch.inv {nr : Nat → Int} {v x : Nat} (h : Ch nr v x) : v = x ∨ ∃ u : Nat, v ≠ 0 ∧ nr v = (u : Int) ∧ Ch nr u x := by
 cases h with
 | self => exact .inl rfl
 | up _ u _ h0 he h2 => exact .inr ⟨u, h0, he, h2⟩
section
variable {E : Nat → Nat → Prop} {R : Nat → Prop} {rk : Nat → Nat} {nr : Nat → Int} {pos : Nat}
theorem NInv.chrk (h : NInv E R rk nr pos) {v x : Nat} (hc : Ch nr v x) : x = v ∨ rk x < rk v := by
 induction hc with
 | self => exact .inl rfl
 | up v u x h0 he _ ih =>
  have := (h.tr v u h0 he).2.2.2;rcases ih with rfl | k
  ·exact .inr this
  ·exact .inr (by omega)
theorem NInv.chD (h : NInv E R rk nr pos) {v x : Nat} (hc : Ch nr v x) (hv : 0 ≤ nr v) : 0 ≤ nr x := by
 induction hc with
 | self => exact hv
 | up v u x h0 he _ ih => exact ih (h.tr v u h0 he).2.2.1
theorem NInv.dR (h : NInv E R rk nr pos) (g : Grf E R rk) {v : Nat} (hv : 0 ≤ nr v) : R v := by
 by_cases h0 : v = 0
 ·subst h0; exact g.r0
 ·exact (h.tr v (nr v).toNat h0 (by omega)).1
theorem NInv.root (h : NInv E R rk nr pos) {v : Nat} (hv : 0 ≤ nr v) : Ch nr v 0 := by
 obtain ⟨k, hk⟩ : ∃ k, k = rk v := ⟨_, rfl⟩
 induction k using Nat.strongRecOn generalizing v with
 | _ k ih =>
  by_cases h0 : v = 0
  ·subst h0; exact .self 0
  ·have ht := h.tr v (nr v).toNat h0 (by omega);exact .up v (nr v).toNat 0 h0 (by omega) (ih _ (by omega) ht.2.2.1 rfl)
def upd (nr : Nat → Int) (b : Nat) (d : Int) : Nat → Int := fun v => if v = b then d else nr v
theorem upd_self (b : Nat) (d : Int) : upd nr b d b = d := by simp [upd]
theorem upd_ne {b v : Nat} (d : Int) (h : v ≠ b) : upd nr b d v = nr v := by simp [upd, h]
/-- a chain without b stays -/
theorem Ch.keep {b : Nat} {d : Int} {v x : Nat} (hb : ¬ Ch nr v b) : Ch (upd nr b d) v x ↔ Ch nr v x := by
 constructor
 ·intro h
  induction h with
  | self => exact .self _
  | up v u x h0 he _ ih =>
   have hvb : v ≠ b := fun e => hb (e ▸ .self _);rw [upd_ne d hvb] at he;exact .up v u x h0 he (ih fun k => hb (.up v u b h0 he k))
 ·intro h
  induction h with
  | self => exact .self _
  | up v u x h0 he _ ih =>
   have hvb : v ≠ b := fun e => hb (e ▸ .self _);exact .up v u x h0 (by rw [upd_ne d hvb]; exact he) (ih fun k => hb (.up v u b h0 he k))
/-- whether b stands above does not change -/
theorem Ch.at (b : Nat) (d : Int) (v : Nat) : Ch (upd nr b d) v b ↔ Ch nr v b := by
 constructor
 ·intro h;obtain ⟨nr', hn⟩ : ∃ n, n = upd nr b d := ⟨_, rfl⟩
  rw [← hn] at h
  induction h with
  | self => exact .self _
  | up v u x h0 he _ ih =>
   by_cases hvb : v = x
   ·subst hvb; exact .self _
   ·rw [hn, upd_ne d hvb] at he;exact .up v u x h0 he (ih hn)
 ·intro h
  induction h with
  | self => exact .self _
  | up v u x h0 he _ ih =>
   by_cases hvb : v = x
   ·subst hvb; exact .self _
   ·exact .up v u x h0 (by rw [upd_ne d hvb]; exact he) ih
theorem Ch.tot {v a x : Nat} (h1 : Ch nr v a) (h2 : Ch nr v x) : Ch nr a x ∨ Ch nr x a := by
 induction h1 with
 | self => exact .inl h2
 | up v u a h0 he h3 ih =>
  rcases h2.inv with rfl | ⟨u', _, he', h4⟩
  ·exact .inr (.up v u a h0 he h3)
  ·have : u = u' := by omega
   subst this;exact ih h4
theorem NInv.anti (h : NInv E R rk nr pos) {a b : Nat} (h1 : Ch nr a b) (h2 : Ch nr b a) : a = b := by
 have := h.chrk h1; have := h.chrk h2; omega
theorem NInv.root0 (h : NInv E R rk nr pos) {x : Nat} (h1 : Ch nr 0 x) : x = 0 := by
 rcases h1.inv with e | ⟨_, k, _⟩
 ·exact e.symm
 ·exact absurd rfl k
/-- what a step at b rests on -/
structure Stp (E : Nat → Nat → Prop) (R : Nat → Prop) (rk : Nat → Nat) (nr : Nat → Int) (pos b d : Nat) : Prop where
 inv : NInv E R rk nr pos
 g : Grf E R rk
 rb : R b
 pb : rk b = pos
 b0 : b ≠ 0
 dd : 0 ≤ nr d
 m : ∀ x, Ch nr d x ↔ ∀ u, E u b → 0 ≤ nr u → Ch nr u x
variable {b d : Nat}
theorem Stp.pre (s : Stp E R rk nr pos b d) : ∃ u, E u b ∧ rk u < rk b ∧ 0 ≤ nr u ∧ Ch nr u d := by
 obtain ⟨u, he, hr⟩ := s.g.pred b s.rb s.b0;have hd := s.inv.dn u (s.g.e u b he).1 (by have := s.pb; omega);exact ⟨u, he, hr, hd, (s.m d).1 (.self d) u he hd⟩
theorem Stp.rkd (s : Stp E R rk nr pos b d) : rk d < rk b := by
 obtain ⟨u, _, hr, _, hc⟩ := s.pre;rcases s.inv.chrk hc with rfl | k
 ·exact hr
 ·omega
theorem Stp.below (s : Stp E R rk nr pos b d) {v : Nat} (hv : rk v < rk b) : ¬ Ch nr v b := by
 intro k;rcases s.inv.chrk k with rfl | k <;> omega
theorem Stp.nd (s : Stp E R rk nr pos b d) {x : Nat} : Ch (upd nr b d) d x ↔ Ch nr d x := Ch.keep (s.below s.rkd)
theorem Stp.mv (s : Stp E R rk nr pos b d) {y : Nat} (hy : nr b = (y : Int)) {x : Nat} (hx : Ch nr d x) : Ch nr y x :=
 s.inv.i4 b y x s.b0 hy ((s.m x).1 hx)
theorem Stp.split (s : Stp E R rk nr pos b d) {v x : Nat} (hv : Ch nr v b) : Ch (upd nr b d) v x ↔ (Ch nr v x ∧ Ch nr x b) ∨ Ch nr d x := by
 constructor
 ·intro h;obtain ⟨nr', hn⟩ : ∃ n, n = upd nr b d := ⟨_, rfl⟩
  rw [← hn] at h
  induction h with
  | self => exact .inl ⟨.self _, hv⟩
  | up v u x h0 he h3 ih =>
   by_cases e : v = b
   ·subst e;rw [hn, upd_self] at he;have : u = d := by omega
    subst this;rw [hn] at h3;exact .inr (s.nd.1 h3)
   ·rw [hn, upd_ne _ e] at he;rcases hv.inv with k | ⟨u', _, he', h4⟩
    ·exact absurd k e
    ·have : u = u' := by omega
     subst this;rcases ih h4 with k | k
     ·exact .inl ⟨.up v u x h0 he k.1, k.2⟩
     ·exact .inr k
 ·intro h;obtain ⟨b', hb⟩ : ∃ n, n = b := ⟨_, rfl⟩
  rw [← hb] at hv
  induction hv with
  | self v =>
   subst hb;rcases h with ⟨h1, h2⟩ | h
   ·rw [s.inv.anti h1 h2]; exact .self _
   ·exact .up v d x s.b0 (by rw [upd_self]) (s.nd.2 h)
  | up v u b' h0 he h3 ih =>
   subst hb;by_cases e : v = b'
   ·subst e;rcases h with ⟨h1, h2⟩ | h
    ·rw [s.inv.anti h1 h2]; exact .self _
    ·exact .up v d x s.b0 (by rw [upd_self]) (s.nd.2 h)
   ·rcases h with ⟨h1, h2⟩ | h
    ·rcases h1.inv with rfl | ⟨u', _, he', h4⟩
     ·exact .self _
     ·have : u = u' := by omega
      subst this;exact .up v u x h0 (by rw [upd_ne _ e]; exact he) (ih (.inl ⟨h4, h2⟩) rfl)
    ·exact .up v u x h0 (by rw [upd_ne _ e]; exact he) (ih (.inr h) rfl)
theorem Stp.sub (s : Stp E R rk nr pos b d) (hb : 0 ≤ nr b) {v x : Nat} (h : Ch (upd nr b d) v x) : Ch nr v x := by
 by_cases hv : Ch nr v b
 ·rcases (s.split hv).1 h with k | k
  ·exact k.1
  ·exact hv.trans (.up b (nr b).toNat x s.b0 (by omega) (s.mv (by omega) k))
 ·exact (Ch.keep hv).1 h
theorem Stp.fresh (s : Stp E R rk nr pos b d) (hb : ¬ 0 ≤ nr b) {v : Nat} (hv : v ≠ b) : ¬ Ch nr v b := by
 intro k;rcases k.inv with k | ⟨u, h0, he, h2⟩
 ·exact hv k
 ·exact hb (s.inv.chD h2 (s.inv.tr v u h0 he).2.2.1)
theorem Stp.oldD (s : Stp E R rk nr pos b d) {v : Nat} (h : 0 ≤ upd nr b d v) : v = b ∨ 0 ≤ nr v := by
 by_cases e : v = b
 ·exact .inl e
 ·rw [upd_ne _ e] at h; exact .inr h
theorem Stp.newD (s : Stp E R rk nr pos b d) {v : Nat} (h : 0 ≤ nr v) : 0 ≤ upd nr b d v := by
 by_cases e : v = b
 ·subst e; rw [upd_self]; omega
 ·rw [upd_ne _ e]; exact h
theorem Stp.away (s : Stp E R rk nr pos b d) {x : Nat} (h1 : ¬ Ch nr d x) (h2 : x ≠ b) : x ≠ 0 ∧ Wx E x 0 b := by
 rw [s.m x] at h1;obtain ⟨u, h1⟩ := Classical.not_forall.1 h1;obtain ⟨he, h1⟩ := Classical.not_forall.1 h1;obtain ⟨hd, h1⟩ := Classical.not_forall.1 h1;have := s.inv.i1 u x hd h1;exact ⟨this.1, .step u b this.2 he (Ne.symm h2)⟩
theorem Stp.next (s : Stp E R rk nr pos b d) : NInv E R rk (upd nr b d) (pos + 1) := by
 have h := s.inv;have hbd : d ≠ b := fun e => by have := s.rkd; rw [e] at this; omega
 have hp := s.pb;refine ⟨?_, ?_, ?_, ?_, ?_, ?_, ?_, ?_⟩
 ·rw [upd_ne _ (Ne.symm s.b0)]; exact h.z
 ·intro v u h0 he;by_cases e : v = b
  ·subst e;rw [upd_self] at he;have : u = d := by omega
   subst this;exact ⟨s.rb, h.dR s.g s.dd, s.newD s.dd, s.rkd⟩
  ·rw [upd_ne _ e] at he;have := h.tr v u h0 he;exact ⟨this.1, this.2.1, s.newD this.2.2.1, this.2.2.2⟩
 ·intro v u hv hu hr;rcases s.oldD hv with rfl | hv
  ·exact s.newD (h.dn u hu (by omega))
  ·exact s.newD (h.dr v u hv hu hr)
 ·intro v hv hr;by_cases e : rk v = pos
  ·have : v = b := s.g.inj v b hv s.rb (by omega);subst this;rw [upd_self]; omega
  ·exact s.newD (h.dn v hv (by omega))
 ·intro v x hv hx;by_cases e : v = b
  ·subst e;exact s.away (fun k => hx (.up v d x s.b0 (by rw [upd_self]) (s.nd.2 k))) (fun e => hx (e ▸ .self _))
  ·have hv : 0 ≤ nr v := by rcases s.oldD hv with k | k; exact absurd k e; exact k
   by_cases hc : Ch nr v x
   ·by_cases hb : Ch nr v b
    ·rw [s.split hb] at hx;have h1 : ¬ Ch nr d x := fun k => hx (.inr k);have h2 : ¬ Ch nr x b := fun k => hx (.inl ⟨hc, k⟩);have h3 : x ≠ b := fun k => h2 (k ▸ .self _);have h4 : Ch nr b x := by rcases Ch.tot hb hc with k | k; exact k; exact absurd k h2
     have h5 := s.away h1 h3;exact ⟨h5.1, h5.2.trans (h.i2 v b x hv hb h4 h3)⟩
    ·exact absurd ((Ch.keep hb).2 hc) hx
   ·exact h.i1 v x hv hc
 ·intro w a x hw hwa hax hne;by_cases hb : 0 ≤ nr b
  ·have : 0 ≤ nr w := by rcases s.oldD hw with rfl | k; exact hb; exact k
   exact h.i2 w a x this (s.sub hb hwa) (s.sub hb hax) hne
  ·by_cases e : w = b
   ·subst e;rcases hwa.inv with rfl | ⟨u, h0, he, h2⟩
    ·exact .refl
    ·rw [upd_self] at he;have : u = d := by omega
     subst this;have hda := s.nd.1 h2;have hra : rk a < rk w := by
      have := s.rkd;rcases h.chrk hda with rfl | k <;> omega
     have hax' := (Ch.keep (s.below hra)).1 hax;obtain ⟨u0, hu, _, hd0, hc0⟩ := s.pre;have hx := h.chD hax' (h.chD hda s.dd);exact .step u0 w (h.i2 u0 a x hd0 (hc0.trans hda) hax' hne) hu (fun e => hb (e ▸ hx))
   ·have hb' := s.fresh hb e;have h1 := (Ch.keep hb').1 hwa;have h2 := (Ch.keep (fun k => hb' (h1.trans k))).1 hax;have : 0 ≤ nr w := by rcases s.oldD hw with k | k; exact absurd k e; exact k
    exact h.i2 w a x this h1 h2 hne
 ·intro v y x h0 he hx;by_cases e : v = b
  ·subst e;rw [upd_self] at he;have : y = d := by omega
   subst this;rw [s.nd];refine Classical.byContradiction fun hno => hno ((s.m x).2 fun u hu hd => ?_);have := hx u hu (s.newD hd);by_cases hc : Ch nr u v
   ·rcases (s.split hc).1 this with k | k
    ·exact k.1
    ·exact absurd k hno
   ·exact (Ch.keep hc).1 this
  ·rw [upd_ne _ e] at he;have hv : 0 ≤ nr v := by omega
   have hold : Ch nr y x := h.i4 v y x h0 he fun u hu hd => by
    have h1 := hx u hu (s.newD hd);by_cases hb : 0 ≤ nr b
    ·exact s.sub hb h1
    ·exact (Ch.keep (s.fresh hb fun e => hb (e ▸ hd))).1 h1
   by_cases hyb : Ch nr y b
   ·rw [s.split hyb];rcases Ch.tot hyb hold with k | k
    ·by_cases hxb : x = b
     ·subst hxb; exact .inl ⟨hold, .self _⟩
     ·obtain ⟨u0, hu, hr⟩ := s.g.pred v (h.dR s.g hv) h0;have h1 := h.i5 v y u0 b h0 he hu hr hyb (.inr (by omega));have h2 := hx u0 hu (s.newD (h.dr v u0 hv (s.g.e _ _ hu).1 hr));rcases (s.split h1).1 h2 with k2 | k2
      ·exact absurd (h.anti k2.2 k) hxb
      ·exact .inr k2
    ·exact .inl ⟨hold, k⟩
   ·exact (Ch.keep hyb).2 hold
 ·intro v y u x h0 he hu hr hx hc;by_cases e : v = b
  ·subst e;rw [upd_self] at he;have : y = d := by omega
   subst this;have h1 := (s.m x).1 (s.nd.1 hx) u hu (h.dn u (s.g.e _ _ hu).1 (by omega));exact (Ch.keep (s.below hr)).2 h1
  ·rw [upd_ne _ e] at he;have ht := h.tr v y h0 he;have hvp : rk v ≠ pos := fun k => e (s.g.inj v b ht.1 s.rb (by omega));by_cases hlt : rk v < pos
   ·have h1 := (Ch.keep (s.below (show rk y < rk b by omega))).1 hx;exact (Ch.keep (s.below (show rk u < rk b by omega))).2 (h.i5 v y u x h0 he hu hr h1 (.inl hlt))
   ·have hxr : pos + 1 ≤ rk x := by omega
    have h1 : Ch nr y x := by
     by_cases hyb : Ch nr y b
     ·rcases (s.split hyb).1 hx with k | k
      ·exact k.1
      ·have := s.rkd;rcases h.chrk k with rfl | k <;> omega
     ·exact (Ch.keep hyb).1 hx
    have h2 := h.i5 v y u x h0 he hu hr h1 (.inr (by omega));by_cases hub : Ch nr u b
    ·rw [s.split hub];rcases Ch.tot hub h2 with k | k
     ·rcases h.chrk k with rfl | k <;> omega
     ·exact .inl ⟨h2, k⟩
    ·exact (Ch.keep hub).2 h2
/-- a step that changes what stood there lowers the rank -/
theorem Stp.lower (s : Stp E R rk nr pos b d) {y : Nat} (hy : nr b = (y : Int)) (hne : y ≠ d) : rk d < rk y := by
 rcases s.inv.chrk (s.mv hy (.self d)) with k | k
 ·exact absurd k.symm hne
 ·exact k
theorem NInv.start (g : Grf E R rk) : NInv E R rk (upd (fun _ => -1) 0 0) 1 := by
 have hz : ∀ v, 0 ≤ upd (fun _ => -1) 0 0 v → v = 0 := by
  intro v hv;by_cases e : v = 0
  ·exact e
  ·rw [upd_ne _ e] at hv; omega
 have hc : ∀ {x}, Ch (upd (fun _ => -1) 0 0) 0 x → x = 0 := by
  intro x h;rcases h.inv with e | ⟨_, k, _⟩
  ·exact e.symm
  ·exact absurd rfl k
 refine ⟨upd_self 0 0, ?_, ?_, ?_, ?_, ?_, ?_, ?_⟩
 ·intro v u h0 he; exact absurd (hz v (by omega)) h0
 ·intro v u hv _ hr;rw [hz v hv, g.z] at hr; omega
 ·intro v hv hr;have : v = 0 := g.inj v 0 hv g.r0 (by rw [g.z]; omega);subst this; rw [upd_self]; omega
 ·intro v x hv hx;have := hz v hv;subst this;exact ⟨fun e => hx (e ▸ .self _), .refl⟩
 ·intro w a x hw hwa hax hne;have := hz w hw;subst this;have := hc hwa;subst this;exact absurd (hc hax) hne
 ·intro v y x h0 he; exact absurd (hz v (by omega)) h0
 ·intro v y u x h0 he; exact absurd (hz v (by omega)) h0
theorem NInv.again (h : NInv E R rk nr pos) (hp : ∀ v, R v → rk v < pos) : NInv E R rk nr 1 :=
 ⟨h.z, h.tr, h.dr, fun v hv _ => h.dn v hv (hp v hv), h.i1, h.i2, h.i4, fun v y u x h0 he hu hr hx _ => h.i5 v y u x h0 he hu hr hx (.inl (hp v (h.tr v y h0 he).1))⟩
/-- where no step changes anything, what stands above dominates -/
theorem NInv.dom (h : NInv E R rk nr pos) (g : Grf E R rk) (hp : ∀ v, R v → rk v < pos) (hq : ∀ v, R v → v ≠ 0 → ∀ u x, E u v → Ch nr (nr v).toNat x → Ch nr u x) {v x : Nat} (hv : R v) : Ch nr v x ↔ ¬ (x ≠ 0 ∧ Wx E x 0 v) := by
 constructor
 ·rintro hc ⟨hx0, hw⟩;have key : ∀ v, Wx E x 0 v → Ch nr v x → False := by
   intro v hw
   induction hw with
   | refl => intro hc; exact hx0 (h.root0 hc)
   | step u w _ he hne ih =>
    intro hc;rcases hc.inv with k | ⟨y, h0, hy, h2⟩
    ·exact hne k
    ·exact ih (hq w (g.e _ _ he).2 h0 u x he (by rw [hy]; exact h2))
  exact key v hw hc
 ·intro hn;exact Classical.byContradiction fun hc => hn (h.i1 v x (h.dn v hv (hp v hv)) hc)
theorem NInv.meetL (h : NInv E R rk nr pos) (g : Grf E R rk) {a b : Nat} (ha : 0 ≤ nr a) (hr : rk b < rk a) : ∃ y : Nat, nr a = (y : Int) ∧ 0 ≤ nr y ∧ rk y < rk a ∧ ∀ x, (Ch nr y x ∧ Ch nr b x) ↔ (Ch nr a x ∧ Ch nr b x) := by
 have a0 : a ≠ 0 := fun e => by rw [e, g.z] at hr; omega
 have ht := h.tr a (nr a).toNat a0 (by omega);refine ⟨(nr a).toNat, by omega, ht.2.2.1, ht.2.2.2, fun x => ⟨fun k => ⟨.up a _ x a0 (by omega) k.1, k.2⟩, fun k => ?_⟩⟩;rcases k.1.inv with rfl | ⟨u, _, he, h2⟩
 ·rcases h.chrk k.2 with e | e
  ·rw [e] at hr; omega
  ·omega
 ·refine ⟨?_, k.2⟩;rw [he]; exact h2
theorem NInv.meetR (h : NInv E R rk nr pos) (g : Grf E R rk) {a b : Nat} (ha : 0 ≤ nr a) (hb : 0 ≤ nr b) (hne : a ≠ b) (hr : ¬ rk b < rk a) : ∃ y : Nat, nr b = (y : Int) ∧ 0 ≤ nr y ∧ rk y < rk b ∧ ∀ x, (Ch nr a x ∧ Ch nr y x) ↔ (Ch nr a x ∧ Ch nr b x) := by
 have h1 : rk a ≠ rk b := fun e => hne (g.inj a b (h.dR g ha) (h.dR g hb) e);obtain ⟨y, h2, h3, h4, h5⟩ := h.meetL g hb (b := a) (by omega);exact ⟨y, h2, h3, h4, fun x => by rw [and_comm, h5 x, and_comm]⟩
/-- the meet of those that have come -/
def MeetOf (nr : Nat → Int) (us : List Int) (d : Int) : Prop :=
 (d = -1 ∧ ∀ x ∈ us, nr x.toNat < 0) ∨ ∃ dn : Nat, d = dn ∧ 0 ≤ nr dn ∧ ∀ x, Ch nr dn x ↔ ∀ u ∈ us, 0 ≤ nr u.toNat → Ch nr u.toNat x
theorem MeetOf.nil : MeetOf nr [] (-1) := .inl ⟨rfl, fun x hx => by simp at hx⟩
theorem MeetOf.pass {us : List Int} {d : Int} {u : Nat} (h : MeetOf nr us d) (hu : nr u < 0) : MeetOf nr (us ++ [(u : Int)]) d := by
 rcases h with ⟨h1, h2⟩ | ⟨dn, h1, h2, h3⟩
 ·refine .inl ⟨h1, fun x hx => ?_⟩;rcases List.mem_append.1 hx with k | k
  ·exact h2 x k
  ·simp at k; subst k; exact hu
 ·refine .inr ⟨dn, h1, h2, fun x => (h3 x).trans ⟨fun k v hv hd => ?_, fun k v hv hd => k v (by simp [hv]) hd⟩⟩;rcases List.mem_append.1 hv with j | j
  ·exact k v j hd
  ·simp at j; subst j; rw [Int.toNat_natCast] at hd; omega
theorem MeetOf.first {us : List Int} {d : Int} {u : Nat} (h : MeetOf nr us d) (hd : d < 0) (hu : 0 ≤ nr u) : MeetOf nr (us ++ [(u : Int)]) u := by
 rcases h with ⟨h1, h2⟩ | ⟨dn, h1, h2, h3⟩
 ·refine .inr ⟨u, rfl, hu, fun x => ⟨fun k v hv hd => ?_, fun k => ?_⟩⟩
  ·rcases List.mem_append.1 hv with j | j
   ·have := h2 v j; omega
   ·simp at j; subst j; rw [Int.toNat_natCast]; exact k
  ·have := k u (by simp) (by rw [Int.toNat_natCast]; exact hu)
   rwa [Int.toNat_natCast] at this
 ·omega
theorem MeetOf.meet {us : List Int} {d u a : Nat} (h : MeetOf nr us d) (hu : 0 ≤ nr u) (ha : 0 ≤ nr a) (hm : ∀ x, (Ch nr a x ∧ Ch nr a x) ↔ (Ch nr d x ∧ Ch nr u x)) : MeetOf nr (us ++ [(u : Int)]) a := by
 rcases h with ⟨h1, h2⟩ | ⟨dn, h1, h2, h3⟩
 ·omega
 ·have e : d = dn := by omega
  subst e;refine .inr ⟨a, rfl, ha, fun x => ?_⟩;rw [show Ch nr a x ↔ (Ch nr d x ∧ Ch nr u x) from ⟨fun k => (hm x).1 ⟨k, k⟩, fun k => ((hm x).2 k).1⟩, h3 x];constructor
  ·rintro ⟨k1, k2⟩ v hv hd;rcases List.mem_append.1 hv with j | j
   ·exact k1 v j hd
   ·simp at j; subst j; rw [Int.toNat_natCast]; exact k2
  ·intro k;refine ⟨fun v hv hd => k v (by simp [hv]) hd, ?_⟩;have := k u (by simp) (by rw [Int.toNat_natCast]; exact hu)
   rwa [Int.toNat_natCast] at this
end
end
theorem Tryd.infoB : (Tryd.prog.info? 4).map (fun i => (i.zero, i.size, i.bytes)) = some (some (.bool false), 1, 1) := by kernel_rfl
theorem Bools_some {l : List Bool} {i : Nat} {v : Bool} (h : l[i]? = some v) : (Bools l)[i]? = some (.bool v) := by simp [Bools, h]
theorem Bools_set (l : List Bool) (i : Nat) (b : Bool) : (Bools l).set i (.bool b) = Bools (l.set i b) := by simp [Bools]
theorem madeBools (n : Nat) : madeCells #[.bool false] n = (Bools (List.replicate n false)).toArray := by
 apply Array.ext
 ·simp [madeCells, Bools]
 ·intro i h1 h2;simp [madeCells, Bools, Nat.mod_one]
theorem nil_or_snoc {α : Type} (l : List α) : l = [] ∨ ∃ t x, l = t ++ [x] := by
 rcases List.eq_nil_or_concat l with h | ⟨t, x, h⟩
 ·exact .inl h
 ·exact .inr ⟨t, x, by rw [h, List.concat_eq_append]⟩
/-- a list of flags in memory of its own -/
def FreshB (w : World) (l : List Bool) (e : Ending) (w' : World) : Prop := ∃ v, e = .returned v ∧ Below w.heap.size w w' ∧ w'.ownsRow 0 4 1 v l.length (Bools l) ∧ (∀ k, v.ownBlock = some k → w.heap.size ≤ k)
theorem reach_any (B : Nat) (hh : HF) (f : PFunc) (w : World) (hB : B ≤ w.heap.size) (hf : FuncOk B w hh f) (hn0 : 0 < f.code.length) (hn : f.code.length ≤ 1024) : Calls Tryd.prog 31 #[FuncVal hh f] w (FreshB w (reachP f)) := by
 obtain ⟨j0, gi, gz0, gz1, gz2⟩ := info_parts Tryd.infoB;have hmk := run_make_row' (P := Tryd.prog) 69 4 (.bool false) 1 Tryd.underlying69 Tryd.infoB rfl .i64 .i64 f.code.length (by omega) (by omega);rw [madeBools] at hmk;have HF := Lib.hid hf;obtain ⟨pa, pl, pc, ca, cl, cc⟩ := hh;obtain ⟨h1, h2, ⟨hcl, hcm, hcx⟩, h4, h5⟩ := hf;dsimp only at *;subst hcl;clear h2 hcm hcx h1 h4 h5;have i1 : ¬ (f.code.length : Int) = 0 := by omega
 have i2 : ¬ (1024 : Int) < (f.code.length : Int) := by omega
 have i3 : ((f.code.length : Int) == 0) = false := by rw [beq_eq_false_iff_ne]; omega
 have i4 : decide ((1024 : Int) < (f.code.length : Int)) = false := by rw [decide_eq_false_iff_not]; omega
 have hNX := Lib.hid (fun (a : Nat) w hB hf hat => next_any B ⟨pa, pl, pc, ca, f.code.length, cc⟩ f a w hB hf hat);unfold FuncVal at *;dsimp only at *;have hS := Lib.hid (RInv.start f hn0);have hR : ∀ can, RInv f can [] → can = reachP f := fun can h => h.done;have HRR := Lib.hid hR; clear hR;generalize reachP f = RP at *;have hnl : (List.replicate f.code.length false).length = f.code.length := by simp
 generalize List.replicate f.code.length false = F0 at *;go_enter Tryd.func31, Tryd.ntmps31;go_wp2;go_step3;go_wp2;go_step3;go_wp2;generalize hW0 : World.alloc _ _ = W0;have hb0 : Below w.heap.size w W0 := by rw [← hW0]; exact bel
 have OB : Own W0 w.heap.size [.string f.name, .slice pa pl pc, .int .i64 f.regs, .int .i64 f.words, .slice ca f.code.length cc] := by rw [← hW0]; exact ((Own.new _ _ _).alloc _).alloc _
 have OC : W0.ownsRow 0 4 1 (.slice (some ⟨w.heap.size + 1, 0, none⟩) f.code.length f.code.length) f.code.length (Bools F0) := by
  rw [← hW0];have := (World.ownsRow_lit (w.alloc (.cells #[.string f.name, .slice pa pl pc, .int .i64 f.regs, .int .i64 f.words, .slice ca f.code.length cc] 43)) (base := 0) (e := 4) (size := 1) (Bools F0).toArray f.code.length (Nat.zero_le _) (by unfold maxLen; omega) (by simp [Bools, hnl])).alloc (.cells #[.int .i64 0] 3);simpa using this
 have OT : W0.ownsRow 0 3 1 (.slice (some ⟨w.heap.size + 1 + 1, 0, none⟩) 1 1) 1 (Nums [0]) := by
  rw [← hW0];have := World.ownsRow_lit ((w.alloc (.cells #[.string f.name, .slice pa pl pc, .int .i64 f.regs, .int .i64 f.words, .slice ca f.code.length cc] 43)).alloc (.cells (Bools F0).toArray 4)) (base := 0) (e := 3) (size := 1) (Nums [0]).toArray 1 (Nat.zero_le _) (by unfold maxLen; omega) (by simp [Nums]);simpa [Nums] using this
 clear hW0 hmk gz0 gz1 gz2 gi
 go_loopg [4] (rLeft F0 [0]) (fun k v wr => ∃ (can : List Bool) (todo : List Int), k = rLeft can todo ∧ Hid (RInv f can todo) ∧ k ≤ 4000 ∧ Below w.heap.size w wr ∧ Hid (Own wr w.heap.size [.string f.name, .slice pa pl pc, .int .i64 f.regs, .int .i64 f.words, .slice ca f.code.length cc]) ∧ Hid (wr.ownsRow 0 4 1 (.slice (some ⟨w.heap.size + 1, 0, none⟩) f.code.length f.code.length) f.code.length (Bools can)) ∧ (∀ j, v.ownBlock = some j → w.heap.size + 2 ≤ j) ∧ Hid (wr.ownsRow 0 3 1 v todo.length (Nums todo)))
 case atStart => exact ⟨F0, [0], rfl, hS, by have : F0.count false ≤ F0.length := List.count_le_length; unfold rLeft; simp; omega, hb0, Lib.hid OB, Lib.hid OC, by simp [Value.ownBlock], Lib.hid OT⟩
 case round =>
  clear hb0 OB OC OT hnl;obtain ⟨can, todo, rfl, hI, hk, hbr, hb, hc, hvb, ht⟩ := hrel;have b5 := own5 hb.out;rcases nil_or_snoc todo with rfl | ⟨t, x, rfl⟩
  ·obtain ⟨va, vc, rfl⟩ : ∃ va vc, u4 = .slice va 0 vc := by
    rcases row_form ht.out with ⟨rfl, _, _⟩ | ⟨g, c, rfl, _, _, _⟩
    ·exact ⟨_, _, rfl⟩
    ·exact ⟨_, _, rfl⟩
   go_wp2
   try rw [Exit.noGoto_ret]
   go_ret;go_light;have e := HRR.out can hI.out;have hl : RP.length = f.code.length := by rw [← e]; exact hI.out.len
   exact ⟨_, rfl, bel, by rw [hl, ← e]; exact hc.out, (fun k hk => by
    have : w.heap.size + 1 = k := by simpa [Value.ownBlock] using hk
    omega)⟩
  ·have hx := hI.out.tr x (by simp);obtain ⟨a, rfl, ha, -⟩ := hx;have hlt : t.length + 1 ≤ 4000 := by
    have := rLeft_len can (t ++ [(a : Int)]);simp only [List.length_append, List.length_cons, List.length_nil] at this;omega
   have hln : (t ++ [(a : Int)]).length = t.length + 1 := by simp
   have ht2 := ht.out;rw [hln] at ht2;obtain ⟨g, c, rfl, hgc, hgm, hgl⟩ := row_pos ht2 (by omega);have hgm' : c ≤ 9223372036854775807 := hgm;have t0 := row_cell ht2 (j := t.length) (u := .int .i64 a) (Nums_some (by simp));have hpop := row_take ht2 t.length (by omega);rw [Nat.mul_one, show (Nums (t ++ [(a : Int)])).take t.length = Nums t by rw [Nums_append, ← Nums_len t, List.take_left]] at hpop;have hcl : can.length = f.code.length := hI.out.len;have hab : w.heap.size + 2 ≤ g := hvb g rfl;have c0 := row_cell hc.out (j := a) (u := .bool (can[a]'(by omega))) (Bools_some (by rw [List.getElem?_eq_getElem]));have hgf := hc.out.frozenAt a;have hca : can[a]? = some (can[a]'(by omega)) := List.getElem?_eq_getElem (by omega);have hw1 : IntKind.i64.wrap ((t.length : Int) + 1 - 1) = (t.length : Int) := by rw [IntWalk.i64_in _ (by omega)]; omega
   have j1 : (0 : Int) < (t.length : Int) + 1 := by omega
   have hvb' : ∀ j, (Value.slice (some ⟨g, 0, none⟩) t.length c).ownBlock = some j → w.heap.size + 2 ≤ j := fun j hj => hvb j hj;have HP := Lib.hid hpop; clear hpop ht2;have HCA := Lib.hid hca; clear hca;generalize can[a]'(by omega) = m at *;cases m
   ·go_wp2_with fail;have hst : Chg (· = w.heap.size + 1) wr (wr.setCell ⟨w.heap.size + 1, a, none⟩ (.bool true)) := Chg.setCell (S := (· = w.heap.size + 1)) (Chg.refl _ _) (p := ⟨w.heap.size + 1, a, none⟩) (Or.inl rfl) _;have P2 := row_chg hst HP.out (by intro k hk e; have h7 : g = k := (by simpa [Value.ownBlock] using hk); omega);have C2 := row_set hc.out a (.bool true);rw [Bools_set] at C2;have B2 := hst.own hb.out (by omega);have hb2 : Below w.heap.size w (wr.setCell ⟨w.heap.size + 1, a, none⟩ (.bool true)) := bel;have hI2 := Lib.hid (hI.out.mark ha);have hM := Lib.hid (rLeft_mark (f := f) (t := t) HCA.out);have hL2 := nextP_len f a;generalize wr.setCell ⟨w.heap.size + 1, a, none⟩ (.bool true) = W1 at *;clear hbr hb hc ht HP t0 c0 hgf b5 hst hgl;have hz2 := hb2.size;refine (hNX.out a W1 (by omega) (HF.out.same (Same.of hb2 hB)) ha).mono ?_;rintro e w5 ⟨nv, rfl, hb5, hr5, hf5, hn5⟩;have hk3 : rLeft (can.set a true) (t ++ nextP f a) ≤ 4000 := by have := hM.out; omega
    have HK3 := Lib.hid hk3; clear hk3;have hcl2 := row_ltB C2;have P3 := row_below hb5 P2;have C3 := row_below hb5 C2;have B3 := B2.below hb5;have hb3 : Below w.heap.size w w5 := bel;clear P2 C2 B2;generalize nextP f a = nl at *;by_cases hne : nl = []
    ·subst hne;obtain rfl := hn5 rfl;go_wp2_with (first | (at_builtin; refine wpList_app0 rfl (.tmp 42) (.tmp 45) 47 3 1 8 (.int .i64 0) rfl Tryd.underlying47 Tryd.infoI _ _ _ rfl P3 rfl ?_) | fail)
     go_roundg (rLeft (can.set a true) (t ++ []))
     case measure => exact hM.out
     case rel => exact ⟨_, _, rfl, hI2, HK3.out, hb3, Lib.hid B3, Lib.hid C3, hvb', Lib.hid (by simpa using P3)⟩
    ·have hnl : 0 < nl.length := List.length_pos_iff.2 hne;obtain ⟨g5, c5, rfl, -, -, hg5⟩ := row_pos hr5 hnl;clear hn5;go_wp2_with (first | (at_builtin; refine wpList_app rfl (.tmp 42) (.tmp 45) 47 3 1 8 (.int .i64 0) rfl Tryd.underlying47 Tryd.infoI rfl (by decide) _ _ _ rfl P3 ⟨g5, 0, none⟩ nl.length c5 (Nums nl) rfl (by simp [Nums]) (hr5.cells rfl) (Nums_one _) (by unfold maxLen; omega) (by omega) hnl ?_; intro g6 c6 w6 hr6 hc6 hg6) | fail)
     go_roundg (rLeft (can.set a true) (t ++ nl))
     case measure => exact hM.out
     case rel =>
      have e6 : ∀ k, (Value.slice (some ⟨g, 0, none⟩) t.length c).ownBlock = some k → k = g := fun k hk => by simpa [Value.ownBlock, eq_comm] using hk
      refine ⟨_, _, rfl, hI2, HK3.out, hb3.trans (hc6.below _ hb3.size (fun k hk e => by have := e6 k e; omega)), Lib.hid (hc6.own B3 (fun e => by have := e6 _ e; omega)), Lib.hid (row_chg hc6 C3 (by intro k hk e; have h6 := e6 _ e; have h7 : w.heap.size + 1 = k := (by simpa [Value.ownBlock] using hk); omega)), ?_, Lib.hid (by rw [List.length_append, Nums_append]; exact hr6)⟩;intro k hk;have hk' : g6 = k := by simpa [Value.ownBlock] using hk
      subst hk';rcases hg6 with h | h
      ·have := e6 _ h; omega
      ·have := hb5.size; omega
   ·go_wp2_with fail
    go_roundg (rLeft can t)
    case measure => exact rLeft_drop
    case rel => exact ⟨can, t, rfl, Lib.hid (hI.out.drop HCA.out), by have := @rLeft_drop can t a; omega, hbr, hb, hc, hvb', HP⟩
/-- the edges that go from the first k instructions -/
noncomputable def edgesTo (f : PFunc) (k : Nat) : List (Nat × Int) := (List.range k).flatMap fun u => if (reachP f).getD u false then (nextP f u).map (fun v => (u, v)) else []
noncomputable def edgesL (f : PFunc) : List (Nat × Int) := edgesTo f f.code.length
def encE (x : Nat × Int) : Array Value := #[.int .i64 x.1, .int .i64 x.2]
theorem edgesTo_succ (f : PFunc) (k : Nat) : edgesTo f (k + 1) = edgesTo f k ++ (if (reachP f).getD k false then (nextP f k).map (fun v => (k, v)) else []) := by
 unfold edgesTo; rw [List.range_succ, List.flatMap_append]; simp
theorem edgesTo_pre (f : PFunc) (k : Nat) (hk : k ≤ f.code.length) : edgesTo f k <+: edgesL f := by
 unfold edgesL;obtain ⟨m, hm⟩ : ∃ m, f.code.length = k + m := ⟨f.code.length - k, by omega⟩
 rw [hm];clear hm hk
 induction m with
 | zero => exact List.prefix_refl _
 | succ m ih => exact ih.trans (by rw [← Nat.add_assoc, edgesTo_succ]; exact List.prefix_append _ _)
theorem edges_pre (f : PFunc) (k j : Nat) (hk : k < f.code.length) (hr : (reachP f).getD k false = true) (v : Int) (hj : (nextP f k)[j]? = some v) : (edgesTo f k ++ ((nextP f k).take j).map (fun v => (k, v))) ++ [(k, v)] <+: edgesL f := by
 refine List.IsPrefix.trans ?_ (edgesTo_pre f (k + 1) hk);rw [edgesTo_succ, if_pos hr, List.append_assoc, List.prefix_append_right_inj];have : ((nextP f k).take j).map (fun v => (k, v)) ++ [(k, v)] = ((nextP f k).take (j + 1)).map (fun v => (k, v)) := by
  rw [List.take_add_one, hj]; simp
 rw [this];exact List.IsPrefix.map _ (List.take_prefix _ _)
/-- the caller's blocks, as the iterator must know of them -/
structure OwnSys (own : World → Nat → Prop) (J : List (Nat × Int) → World → Prop) (B0 : Nat) : Prop where
 lt : ∀ pre W k, J pre W → own W k → k < W.heap.size
 st : ∀ pre W W' k, J pre W → Below W.heap.size W W' → own W' k → own W k
 base : ∀ pre W k, J pre W → own W k → B0 ≤ k
def KpE (own : World → Nat → Prop) (W W' : World) : Prop := Chg (own W) W W' ∧ ∀ k, own W' k → own W k ∨ W.heap.size ≤ k
theorem edges_seq (n : Nat) (own : World → Nat → Prop) (J : List (Nat × Int) → World → Prop) (B B0 bx : Nat) (hh : HF) (f : PFunc) (l : Nat) (W : World)
 (hn0 : 0 < f.code.length) (hn : f.code.length ≤ 1024) (hBB : B ≤ B0) (hbx : ∀ pre W, J pre W → ¬ own W bx) (hBW : B0 ≤ W.heap.size) (hf : FuncOk B W hh f)
 (hbox : Own W bx [.string f.name, .slice hh.pa hh.pl hh.pc, .int .i64 f.regs, .int .i64 f.words, .slice hh.ca hh.cl hh.cc])
 (hO : OwnSys own J B0) (hJB : ∀ pre W W', J pre W → Below W.heap.size W W' → J pre W')
 (hY : ∀ pre x W1, J pre W1 → pre ++ [x] <+: edgesL f → YieldAt Fence.wide (n - 1) Tryd.prog l (encE x) W1 fun e W' => e = .returned (.bool true) ∧ J (pre ++ [x]) W' ∧ KpE own W1 W')
 (h0 : J [] W) : CallsIn Fence.wide n Tryd.prog 30 #[.func (.yield l) #[] #[], .pointer (some ⟨bx, 0, none⟩)] W fun e W' => (∃ v, e = .returned v) ∧ ∃ xs, xs = edgesL f ∧ J xs W' := by
 have b5 := own5 hbox;have HX := Lib.hid hbox; clear hbox;have HRc := Lib.hid (reach_any B hh f W (by omega) hf hn0 hn);have HF := Lib.hid hf; clear hf;have HJ := Lib.hid h0; clear h0;unfold FuncVal at HRc;refine callsIn_of_wp Tryd.func30 rfl trivial ?_ rfl;simp only [Tryd.ntmps30, List.size_toArray, List.length_cons, List.length_nil, Nat.reduceAdd, Nat.reduceSub, Array.replicate_succ, Array.replicate_zero, List.push_toArray, List.append_toArray, List.nil_append, List.cons_append];gi_wp2_with (refine ⟨trivial, (fun h => absurd h (by decide)), ?_⟩; gi_at_call 31; refine (callsIn_wide.2 HRc.out).mono ?_; rintro e w1 ⟨rv, rfl, hb1, hr1, hf1⟩; obtain ⟨rb, rc, rfl, hrc, hrm, hrl⟩ := row_pos hr1 (by rw [reachP_len]; exact hn0); rw [reachP_len] at hr1 ⊢)
 have hz1 := hb1.size;have hnr : ¬ own w1 rb := fun h => by
  have h1 := hO.st _ _ _ _ HJ.out hb1 h;have h2 := hO.lt _ _ _ HJ.out h1;have h3 := hf1 rb rfl;omega
 have HJ1 := Lib.hid (hJB _ _ _ HJ.out hb1);have HX1 := Lib.hid (HX.out.below hb1);have HF1 := Lib.hid (HF.out.same (Same.of hb1 (by omega)));have HR1 := Lib.hid hr1; clear hr1;have hn' : f.code.length ≤ 9223372036854775807 := by omega
 clear hf1 HJ HX HF HRc b5;gi_loopw [10] (fun i wr => ∃ k : Nat, k ≤ f.code.length ∧ i = .int .i64 k ∧ Hid (J (edgesTo f k) wr) ∧ ¬ own wr rb ∧ Hid (Own wr bx [.string f.name, .slice hh.pa hh.pl hh.pc, .int .i64 f.regs, .int .i64 f.words, .slice hh.ca hh.cl hh.cc]) ∧ Hid (FuncOk B wr hh f) ∧ Hid (wr.ownsRow 0 4 1 (.slice (some ⟨rb, 0, none⟩) f.code.length rc) f.code.length (Bools (reachP f))) ∧ B0 ≤ wr.heap.size)
  (fun i _ => f.code.length - (intOf i).toNat)
 case atStart => exact ⟨0, Nat.zero_le _, rfl, HJ1, hnr, HX1, HF1, HR1, by omega⟩
 case round =>
  clear HJ1 HX1 HF1 HR1 hnr hz1 hb1 hrl;obtain ⟨k, hk, rfl, hJ, hnr, hX, hF, hR, hB0⟩ := hrel;have b5 := own5 hX.out;have hrl := row_ltB hR.out;by_cases hlt : k < f.code.length
  ·have d2 : (k : Int) < (f.code.length : Int) := by omega
   have hwk : IntKind.i64.wrap ((k : Int) + 1) = (k : Int) + 1 := IntWalk.i64_in _ (by omega);have hgr : (reachP f)[k]? = some ((reachP f).getD k false) := by rw [List.getD_eq_getElem?_getD, List.getElem?_eq_getElem (by rw [reachP_len]; exact hlt)]; rfl
   have c0 := row_cell hR.out (Bools_some hgr);have HS := Lib.hid (edgesTo_succ f k);have HP := Lib.hid (fun hr j v hj => edges_pre f k j hlt hr v hj);clear hgr;generalize (reachP f).getD k false = m at *;cases m
   ·gi_wp2
    go_roundw
    case rel => exact ⟨k + 1, by omega, by simp, Lib.hid (by rw [HS.out]; simpa using hJ.out), hnr, hX, hF, hR, hB0⟩
    case measure => go_light; first | omega | (simp only [intOf]; omega)
   ·have HN := Lib.hid (next_any B hh f k wr (by omega) hF.out hlt);unfold FuncVal at HN;gi_wp2_with (refine ⟨trivial, (fun h => absurd h (by decide)), ?_⟩; gi_at_call 20; refine (callsIn_wide.2 HN.out).mono ?_; rintro e w2 ⟨nv, rfl, hb2, hr2, hf2, hn2⟩; obtain ⟨va, vc, rfl⟩ : ∃ va vc, nv = .slice va (nextP f k).length vc := (by rcases row_form hr2 with ⟨rfl, h0, _⟩ | ⟨g, c, rfl, _, _, _⟩; exact ⟨none, 0, by rw [h0]⟩; exact ⟨_, _, rfl⟩))
    have hz2 := hb2.size;have hnr2 : ¬ own w2 rb := fun h => hnr (hO.st _ _ _ _ hJ.out hb2 h);have hng2 : ∀ g, va = some ⟨g, 0, none⟩ → ¬ own w2 g := fun g e h => by
     have h1 := hO.lt _ _ _ hJ.out (hO.st _ _ _ _ hJ.out hb2 h);have h2 := hf2 g (by rw [e]; rfl);omega
    have HJ2 := Lib.hid (hJB _ _ _ hJ.out hb2);have HX2 := Lib.hid (hX.out.below hb2);have HF2 := Lib.hid (hF.out.same (Same.of hb2 (by omega)));have HR2 := Lib.hid (row_below hb2 hR.out);have HN2 := Lib.hid hr2; clear hr2;have hnl := nextP_len f k;clear hf2 hn2 hJ hX hF hR HN b5 c0 hnr hrl;generalize nextP f k = nl at *;have hnl' : nl.length ≤ 9223372036854775807 := by omega
    gi_loopw [21] (fun i wx => ∃ j : Nat, j ≤ nl.length ∧ i = .int .i64 j ∧ Hid (J (edgesTo f k ++ (nl.take j).map (fun v => (k, v))) wx) ∧ ¬ own wx rb ∧ (∀ g, va = some ⟨g, 0, none⟩ → ¬ own wx g) ∧ Hid (Own wx bx [.string f.name, .slice hh.pa hh.pl hh.pc, .int .i64 f.regs, .int .i64 f.words, .slice hh.ca hh.cl hh.cc]) ∧ Hid (FuncOk B wx hh f) ∧ Hid (wx.ownsRow 0 4 1 (.slice (some ⟨rb, 0, none⟩) f.code.length rc) f.code.length (Bools (reachP f))) ∧ Hid (wx.ownsRow 0 3 1 (.slice va nl.length vc) nl.length (Nums nl)) ∧ B0 ≤ wx.heap.size)
     (fun i _ => nl.length - (intOf i).toNat)
    case atStart => exact ⟨0, Nat.zero_le _, rfl, Lib.hid (by simpa using HJ2.out), hnr2, hng2, HX2, HF2, HR2, HN2, by omega⟩
    case round =>
     clear HJ2 HX2 HF2 HR2 HN2 hnr2 hng2 hz2 hb2;rename_i wq;obtain ⟨j, hj, rfl, hJ, hnr, hng, hX, hF, hR, hN, hB1⟩ := hrel;have b5 := own5 hX.out;by_cases hjt : j < nl.length
     ·have d3 : (j : Int) < (nl.length : Int) := by omega
      have hwj : IntKind.i64.wrap ((j : Int) + 1) = (j : Int) + 1 := IntWalk.i64_in _ (by omega);obtain ⟨g, gc, hgv, -, -, hgl⟩ := row_pos hN.out (by omega);cases hgv;have hgj : nl[j]? = some (nl[j]'hjt) := List.getElem?_eq_getElem hjt;have n0 := row_cell hN.out (Nums_some hgj);obtain ⟨fn, tmps, assign, body, hy, hRd⟩ := hY _ (k, nl[j]'hjt) wr hJ.out (HP.out (by simp) j _ hgj);unfold encE at hy;dsimp only at hy;have hng' := hng g rfl;have hTk : nl.take (j + 1) = nl.take j ++ [nl[j]'hjt] := by rw [List.take_add_one, hgj]; rfl
      have HTK := Lib.hid hTk; clear hTk hgj;generalize nl[j]'hjt = v at *;have HRd := Lib.hid hRd; clear hRd;gi_wp2;refine ⟨fun h => absurd h (by decide), HRd.out.mono ?_⟩;rintro e W3 ⟨rfl, hJ3, hc3, hk3⟩;have hz3 := hc3.size;have s1 : ¬ own W3 rb := fun h => by rcases hk3 _ h with h | h; exact hnr h; have := row_ltB hR.out; omega
      have s2 : ¬ own W3 g := fun h => by rcases hk3 _ h with h | h; exact hng' h; omega
      have s3 : ¬ own wr bx := hbx _ _ hJ.out;have X3 := hc3.own hX.out s3;have F3 := hF.out.same (hc3.same (show B ≤ wr.heap.size by omega) (fun q hq h => by have := hO.base _ _ _ hJ.out h; omega));have R3 := row_chg hc3 hR.out (fun q hq h => by have e : rb = q := (by simpa [Value.ownBlock] using hq); subst e; exact hnr h);have N3 := row_chg hc3 hN.out (fun q hq h => by have e : g = q := (by simpa [Value.ownBlock] using hq); subst e; exact hng' h);have x5 := own5 X3;gi_wp2
      go_roundw
      case rel => exact ⟨j + 1, by omega, by simp, Lib.hid (by rw [HTK.out, List.map_append, ← List.append_assoc]; exact hJ3), s1, (fun g' e => by cases e; exact s2), Lib.hid X3, Lib.hid F3, Lib.hid R3, Lib.hid N3, by omega⟩
      case measure => go_light; first | omega | (simp only [intOf]; omega)
     ·have hjj : j = nl.length := by omega
      subst hjj;have d3 : ¬ (nl.length : Int) < (nl.length : Int) := by omega
      gi_wp2
      go_roundw
      case rel => exact ⟨k + 1, by omega, by simp, Lib.hid (by have h := hJ.out; rw [List.take_length] at h; rw [HS.out]; simpa using h), hnr, hX, hF, hR, hB1⟩
      case measure => go_light; first | omega | (simp only [intOf]; omega)
  ·have hkk : k = f.code.length := by omega
   subst hkk;have d2 : ¬ (f.code.length : Int) < (f.code.length : Int) := by omega
   gi_wp2
   go_end0
   first | exact ⟨⟨_, rfl⟩, _, rfl, hJ.out⟩ | exact ⟨⟨_, rfl⟩, hJ.out⟩ | exact hJ.out
end Go.Proofs.YteebpnbdihcfmaaDoor
