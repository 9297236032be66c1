/- How modules of code lie in memory: readings of slices of numbers, spans, instructions and functions, and that they stay while the blocks below a bound stay. -/
import Derived.Test.YtgpdggjpbmgegaaDoorRows
import Derived.WalkKit
import Derived.WalkSpells
import Derived.WalkLawsBesides
import Derived.Deep.LoopGhost
import Derived.Lib.Hide
import Derived.Deep.Light
import Derived.Deep.DeepCutAuto
import Derived.Deep.CutBlock
import Derived.Deep.QuietTactic
import Derived.BigQuiet
import Derived.StillTailTactics
import Derived.RegionTactic
import Derived.BigRegion
import Derived.IntWalk
import Derived.Outline
import Derived.Test.YtgpdggjpbmgegaaDoorSpec
namespace Go.Proofs.YtgpdggjpbmgegaaDoor
open Go.RowKit
set_option linter.unusedVariables false

def In64 (n : Int) : Prop := -9223372036854775808 ≤ n ∧ n ≤ 9223372036854775807

/-- below block B the cells of w' are those of w -/
def Same (B : Nat) (w w' : World) : Prop := ∀ b o, b < B → w'.cell? ⟨b, o, none⟩ = w.cell? ⟨b, o, none⟩
theorem Same.refl (B : Nat) (w : World) : Same B w w := fun _ _ _ => rfl
theorem Same.trans {B : Nat} {a b c : World} (h : Same B a b) (k : Same B b c) : Same B a c := fun x o hx => (k x o hx).trans (h x o hx)
theorem Same.of {B : Nat} {w w' : World} (h : Below w.heap.size w w') (hB : B ≤ w.heap.size) : Same B w w' := fun b o hb => h.cell (p := ⟨b, o, none⟩) (by simp; omega)
theorem Same.of' {B : Nat} {w w' : World} (h : Below B w w') : Same B w w' := fun b o hb => h.cell (p := ⟨b, o, none⟩) hb
theorem Same.alloc {B : Nat} {a w : World} (h : Same B a w) (hB : B ≤ w.heap.size) (o : Obj) : Same B a (w.alloc o) := fun x i hx => by
  rw [World.cell?_alloc_lt _ _ _ (by show x < _; omega)]; exact h x i hx
theorem Same.setCell {B : Nat} {a w : World} (h : Same B a w) {p : Addr} (hp : B ≤ p.block) (u : Value) : Same B a (w.setCell p u) := fun x i hx => by
  rw [World.cell?_setCell_other _ _ _ _ (by intro e; subst e; simp at hp; omega)]; exact h x i hx
theorem Below.drewN {B : Nat} {a w : World} (h : Below B a w) (n : Nat) : Below B a (w.drewN n) := ⟨h.os, h.tape, h.output, h.size, h.block⟩
theorem Same.drew {B : Nat} {a w : World} (h : Same B a w) : Same B a w.drew := h
theorem Same.drewN {B : Nat} {a w : World} (h : Same B a w) (n : Nat) : Same B a (w.drewN n) := h

/-- old cells and marks read as before -/
theorem bcell {W w1 : World} (hb : Below W.heap.size W w1) : (∀ b o, b < W.heap.size → w1.cell? ⟨b, o, none⟩ = W.cell? ⟨b, o, none⟩) ∧ (∀ b o, b < W.heap.size → w1.frozen? ⟨b, o, none⟩ = W.frozen? ⟨b, o, none⟩) :=
  ⟨fun b o h => hb.cell (p := ⟨b, o, none⟩) h, fun b o h => hb.frozen (p := ⟨b, o, none⟩) h⟩

/-- a slice's base: n elements at b, o -/
def BaseAt (B : Nat) (a : Option Addr) (n b o : Nat) : Prop := 0 < n → a = some ⟨b, o, none⟩ ∧ b < B

def NumsAt (B : Nat) (w : World) (a : Option Addr) (n : Nat) (zs : List Int) : Prop :=
  zs.length = n ∧ n ≤ maxLen ∧ ∃ b o, BaseAt B a n b o ∧ ∀ i, i < n → w.cell? ⟨b, o + i, none⟩ = some (.int .i64 (zs.getD i 0)) ∧ In64 (zs.getD i 0)

def SpansAt (B : Nat) (w : World) (a : Option Addr) (n : Nat) (zs : List PSpan) : Prop :=
  zs.length = n ∧ n ≤ maxLen ∧ ∃ b o, BaseAt B a n b o ∧ ∀ i, i < n → w.cell? ⟨b, o + i * 2, none⟩ = some (.int .i64 (zs.getD i default).lo) ∧ w.cell? ⟨b, o + i * 2 + 1, none⟩ = some (.int .i64 (zs.getD i default).hi) ∧
    In64 (zs.getD i default).lo ∧ In64 (zs.getD i default).hi

def InsOk (x : PIns) : Prop := In64 x.op ∧ In64 x.a ∧ In64 x.b ∧ In64 x.c ∧ In64 x.n
def InsCells (w : World) (b o : Nat) (x : PIns) : Prop :=
  w.cell? ⟨b, o, none⟩ = some (.int .i64 x.op) ∧ w.cell? ⟨b, o + 1, none⟩ = some (.int .i64 x.a) ∧ w.cell? ⟨b, o + 2, none⟩ = some (.int .i64 x.b) ∧ w.cell? ⟨b, o + 3, none⟩ = some (.int .i64 x.c) ∧ w.cell? ⟨b, o + 4, none⟩ = some (.int .i64 x.n)
def InsVal (x : PIns) : Value := .agg #[.int .i64 x.op, .int .i64 x.a, .int .i64 x.b, .int .i64 x.c, .int .i64 x.n]

def CodeAt (B : Nat) (w : World) (a : Option Addr) (n : Nat) (zs : List PIns) : Prop :=
  zs.length = n ∧ n ≤ maxLen ∧ ∃ b o, BaseAt B a n b o ∧ ∀ i, i < n → InsCells w b (o + i * 5) (zs.getD i default) ∧ InsOk (zs.getD i default)

/-- the image of a function in five cells: its name, the slices' headers, the numbers -/
structure HF where
  pa : Option Addr
  pl : Nat
  pc : Nat
  ca : Option Addr
  cl : Nat
  cc : Nat
instance : Inhabited HF := ⟨⟨none, 0, 0, none, 0, 0⟩⟩
def FuncVal (h : HF) (f : PFunc) : Value := .agg #[.string f.name, .slice h.pa h.pl h.pc, .int .i64 f.regs, .int .i64 f.words, .slice h.ca h.cl h.cc]
def FuncOk (B : Nat) (w : World) (h : HF) (f : PFunc) : Prop :=
  f.name.size ≤ maxLen ∧ SpansAt B w h.pa h.pl f.params ∧ CodeAt B w h.ca h.cl f.code ∧ In64 f.regs ∧ In64 f.words
def FuncCells (w : World) (b o : Nat) (h : HF) (f : PFunc) : Prop :=
  w.cell? ⟨b, o, none⟩ = some (.string f.name) ∧ w.cell? ⟨b, o + 1, none⟩ = some (.slice h.pa h.pl h.pc) ∧ w.cell? ⟨b, o + 2, none⟩ = some (.int .i64 f.regs) ∧ w.cell? ⟨b, o + 3, none⟩ = some (.int .i64 f.words) ∧ w.cell? ⟨b, o + 4, none⟩ = some (.slice h.ca h.cl h.cc)

def FuncsAt (B : Nat) (w : World) (a : Option Addr) (n : Nat) (fs : List PFunc) : Prop :=
  fs.length = n ∧ n ≤ maxLen ∧ ∃ b o, BaseAt B a n b o ∧ ∃ H : Nat → HF, ∀ i, i < n → FuncCells w b (o + i * 5) (H i) (fs.getD i default) ∧ FuncOk B w (H i) (fs.getD i default)

def ModAt (B : Nat) (w : World) (v : Value) (m : PMod) : Prop :=
  ∃ ta tl tc fa fl fc, v = .agg #[.slice ta tl tc, .slice fa fl fc] ∧ NumsAt B w ta tl m.thr ∧ FuncsAt B w fa fl m.funcs

theorem NumsAt.same {B : Nat} {w w' : World} {a : Option Addr} {n : Nat} {zs : List Int} (h : NumsAt B w a n zs) (s : Same B w w') : NumsAt B w' a n zs := by
  obtain ⟨h1, h2, b, o, h3, h4⟩ := h
  exact ⟨h1, h2, b, o, h3, fun i hi => ⟨by rw [s _ _ (h3 (by omega)).2]; exact (h4 i hi).1, (h4 i hi).2⟩⟩
theorem SpansAt.same {B : Nat} {w w' : World} {a : Option Addr} {n : Nat} {zs : List PSpan} (h : SpansAt B w a n zs) (s : Same B w w') : SpansAt B w' a n zs := by
  obtain ⟨h1, h2, b, o, h3, h4⟩ := h
  exact ⟨h1, h2, b, o, h3, fun i hi => ⟨by rw [s _ _ (h3 (by omega)).2]; exact (h4 i hi).1, by rw [s _ _ (h3 (by omega)).2]; exact (h4 i hi).2.1, (h4 i hi).2.2⟩⟩
theorem InsCells.same {w w' : World} {b o B : Nat} {x : PIns} (h : InsCells w b o x) (s : Same B w w') (hb : b < B) : InsCells w' b o x := by
  obtain ⟨h0, h1, h2, h3, h4⟩ := h
  exact ⟨by rw [s _ _ hb]; exact h0, by rw [s _ _ hb]; exact h1, by rw [s _ _ hb]; exact h2, by rw [s _ _ hb]; exact h3, by rw [s _ _ hb]; exact h4⟩
theorem CodeAt.same {B : Nat} {w w' : World} {a : Option Addr} {n : Nat} {zs : List PIns} (h : CodeAt B w a n zs) (s : Same B w w') : CodeAt B w' a n zs := by
  obtain ⟨h1, h2, b, o, h3, h4⟩ := h
  exact ⟨h1, h2, b, o, h3, fun i hi => ⟨(h4 i hi).1.same s (h3 (by omega)).2, (h4 i hi).2⟩⟩
theorem FuncOk.same {B : Nat} {w w' : World} {h : HF} {f : PFunc} (k : FuncOk B w h f) (s : Same B w w') : FuncOk B w' h f := by
  obtain ⟨h1, h2, h3, h4, h5⟩ := k
  exact ⟨h1, h2.same s, h3.same s, h4, h5⟩
theorem FuncCells.same {w w' : World} {b o B : Nat} {h : HF} {f : PFunc} (k : FuncCells w b o h f) (s : Same B w w') (hb : b < B) : FuncCells w' b o h f := by
  obtain ⟨h0, h1, h2, h3, h4⟩ := k
  exact ⟨by rw [s _ _ hb]; exact h0, by rw [s _ _ hb]; exact h1, by rw [s _ _ hb]; exact h2, by rw [s _ _ hb]; exact h3, by rw [s _ _ hb]; exact h4⟩
theorem FuncsAt.same {B : Nat} {w w' : World} {a : Option Addr} {n : Nat} {fs : List PFunc} (h : FuncsAt B w a n fs) (s : Same B w w') : FuncsAt B w' a n fs := by
  obtain ⟨h1, h2, b, o, h3, H, h4⟩ := h
  exact ⟨h1, h2, b, o, h3, H, fun i hi => ⟨(h4 i hi).1.same s (h3 (by omega)).2, (h4 i hi).2.same s⟩⟩
theorem ModAt.same {B : Nat} {w w' : World} {v : Value} {m : PMod} (h : ModAt B w v m) (s : Same B w w') : ModAt B w' v m := by
  obtain ⟨ta, tl, tc, fa, fl, fc, rfl, h1, h2⟩ := h
  exact ⟨ta, tl, tc, fa, fl, fc, rfl, h1.same s, h2.same s⟩

/-- the table of operations lies in block 0 -/
def RowsAt (w : World) : Prop := 0 < w.heap.size ∧ ∀ k, k < 20 → w.cell? ⟨0, k * 7, none⟩ = some (.string ⟨(rowAt k).word.toArray⟩) ∧ w.cell? ⟨0, k * 7 + 1, none⟩ = some (.int .i64 (rowAt k).weight) ∧ w.cell? ⟨0, k * 7 + 2, none⟩ = some (.bool (rowAt k).a) ∧
  w.cell? ⟨0, k * 7 + 3, none⟩ = some (.bool (rowAt k).b) ∧ w.cell? ⟨0, k * 7 + 4, none⟩ = some (.bool (rowAt k).c) ∧ w.cell? ⟨0, k * 7 + 5, none⟩ = some (.int .i64 (rowAt k).n) ∧ w.cell? ⟨0, k * 7 + 6, none⟩ = some (.bool (rowAt k).writes)
theorem RowsAt.same {B : Nat} {w w' : World} (h : RowsAt w) (s : Same B w w') (hB : 0 < B) (hs : w.heap.size ≤ w'.heap.size) : RowsAt w' := by
  obtain ⟨h0, h⟩ := h
  refine ⟨by omega, fun k hk => ?_⟩
  obtain ⟨a, b, c, d, e, f, g⟩ := h k hk
  exact ⟨by rw [s _ _ hB]; exact a, by rw [s _ _ hB]; exact b, by rw [s _ _ hB]; exact c, by rw [s _ _ hB]; exact d, by rw [s _ _ hB]; exact e, by rw [s _ _ hB]; exact f, by rw [s _ _ hB]; exact g⟩

/-- a block of the call's own: its cells, none of which is frozen -/
def Own (w : World) (k : Nat) (cs : List Value) : Prop := k < w.heap.size ∧ (∀ i v, cs[i]? = some v → w.cell? ⟨k, i, none⟩ = some v) ∧ ∀ i, w.frozen? ⟨k, i, none⟩ = false
theorem Own.below {w w' : World} {k : Nat} {cs : List Value} (h : Own w k cs) (hb : Below w.heap.size w w') : Own w' k cs :=
  ⟨Nat.lt_of_lt_of_le h.1 hb.size, fun i v hv => by rw [hb.cell (p := ⟨k, i, none⟩) h.1]; exact h.2.1 i v hv, fun i => by rw [hb.frozen (p := ⟨k, i, none⟩) h.1]; exact h.2.2 i⟩
theorem Own.alloc {w : World} {k : Nat} {cs : List Value} (h : Own w k cs) (o : Obj) : Own (w.alloc o) k cs := h.below ((Below.refl _ _).alloc (Nat.le_refl _) o)
theorem Own.drew {w : World} {k : Nat} {cs : List Value} (h : Own w k cs) : Own w.drew k cs := h
theorem Own.drewN {w : World} {k : Nat} {cs : List Value} (h : Own w k cs) (n : Nat) : Own (w.drewN n) k cs := h
theorem Own.new (w : World) (c : List Value) (t : TypeId) : Own (w.alloc (.cells c.toArray t)) w.heap.size c :=
  ⟨by simp, fun i v hv => by simp [hv], fun i => by simp⟩
theorem Own.new' (w : World) (c : List Value) (t : TypeId) (k : Nat) (hk : k = w.heap.size) : Own (w.alloc (.cells c.toArray t)) k c := by subst hk; exact Own.new w c t
theorem Own.set {w : World} {k : Nat} {cs : List Value} (h : Own w k cs) (i : Nat) (u : Value) (hi : i < cs.length) : Own (w.setCell ⟨k, i, none⟩ u) k (cs.set i u) := by
  refine ⟨by simpa using h.1, fun j v hv => ?_, fun j => by simpa using h.2.2 j⟩
  by_cases e : j = i
  · subst e
    rw [List.getElem?_set_self hi] at hv
    rw [World.cell?_setCell_same _ _ _ (h.2.1 j _ (List.getElem?_eq_getElem hi))]; exact hv
  · rw [List.getElem?_set_ne (by omega)] at hv
    rw [World.cell?_setCell_other _ _ _ _ (by intro x; injection x; omega)]; exact h.2.1 j v hv
theorem Own.setOther {w : World} {k : Nat} {cs : List Value} (h : Own w k cs) {p : Addr} (u : Value) (hp : p.block ≠ k) : Own (w.setCell p u) k cs := by
  refine ⟨by simpa using h.1, fun j v hv => ?_, fun j => by simpa using h.2.2 j⟩
  rw [World.cell?_setCell_other _ _ _ _ (by intro x; subst x; exact hp rfl)]; exact h.2.1 j v hv
theorem own1 {w : World} {k : Nat} {a : Value} (h : Own w k [a]) : k < w.heap.size ∧ w.cell? ⟨k, 0, none⟩ = some a ∧ w.frozen? ⟨k, 0, none⟩ = false := ⟨h.1, h.2.1 0 _ rfl, h.2.2 0⟩
theorem own2 {w : World} {k : Nat} {a b : Value} (h : Own w k [a, b]) : k < w.heap.size ∧ w.cell? ⟨k, 0, none⟩ = some a ∧ w.cell? ⟨k, 1, none⟩ = some b ∧ w.frozen? ⟨k, 0, none⟩ = false ∧ w.frozen? ⟨k, 1, none⟩ = false :=
  ⟨h.1, h.2.1 0 _ rfl, h.2.1 1 _ rfl, h.2.2 0, h.2.2 1⟩
theorem own3 {w : World} {k : Nat} {a b c : Value} (h : Own w k [a, b, c]) : k < w.heap.size ∧ w.cell? ⟨k, 0, none⟩ = some a ∧ w.cell? ⟨k, 1, none⟩ = some b ∧ w.cell? ⟨k, 2, none⟩ = some c ∧ w.frozen? ⟨k, 0, none⟩ = false ∧ w.frozen? ⟨k, 1, none⟩ = false ∧ w.frozen? ⟨k, 2, none⟩ = false :=
  ⟨h.1, h.2.1 0 _ rfl, h.2.1 1 _ rfl, h.2.1 2 _ rfl, h.2.2 0, h.2.2 1, h.2.2 2⟩
theorem own5 {w : World} {k : Nat} {a b c d e : Value} (h : Own w k [a, b, c, d, e]) : k < w.heap.size ∧ w.cell? ⟨k, 0, none⟩ = some a ∧ w.cell? ⟨k, 1, none⟩ = some b ∧ w.cell? ⟨k, 2, none⟩ = some c ∧ w.cell? ⟨k, 3, none⟩ = some d ∧ w.cell? ⟨k, 4, none⟩ = some e ∧
    w.frozen? ⟨k, 0, none⟩ = false ∧ w.frozen? ⟨k, 1, none⟩ = false ∧ w.frozen? ⟨k, 2, none⟩ = false ∧ w.frozen? ⟨k, 3, none⟩ = false ∧ w.frozen? ⟨k, 4, none⟩ = false :=
  ⟨h.1, h.2.1 0 _ rfl, h.2.1 1 _ rfl, h.2.1 2 _ rfl, h.2.1 3 _ rfl, h.2.1 4 _ rfl, h.2.2 0, h.2.2 1, h.2.2 2, h.2.2 3, h.2.2 4⟩

/-- a struct of three cells, written whole -/
theorem set3 {w : World} {k : Nat} {a b c : Value} (h : Own w k [a, b, c]) (x y z : Value) :
    (w.setCell ⟨k, 0, none⟩ x).cell? ⟨k, 0, none⟩ = some x ∧ ((w.setCell ⟨k, 0, none⟩ x).setCell ⟨k, 1, none⟩ y).cell? ⟨k, 1, none⟩ = some y ∧
    (((w.setCell ⟨k, 0, none⟩ x).setCell ⟨k, 1, none⟩ y).setCell ⟨k, 2, none⟩ z).cell? ⟨k, 2, none⟩ = some z := by
  have h1 := h.set 0 x (by simp)
  have h2 := h1.set 1 y (by simp)
  have h3 := h2.set 2 z (by simp)
  exact ⟨h1.2.1 0 _ rfl, h2.2.1 1 _ rfl, h3.2.1 2 _ rfl⟩
/-- a struct of five cells, written whole -/
theorem set5 {w : World} {k : Nat} {a b c d e : Value} (h : Own w k [a, b, c, d, e]) (x y z u v : Value) :
    (w.setCell ⟨k, 0, none⟩ x).cell? ⟨k, 0, none⟩ = some x ∧ ((w.setCell ⟨k, 0, none⟩ x).setCell ⟨k, 1, none⟩ y).cell? ⟨k, 1, none⟩ = some y ∧
    (((w.setCell ⟨k, 0, none⟩ x).setCell ⟨k, 1, none⟩ y).setCell ⟨k, 2, none⟩ z).cell? ⟨k, 2, none⟩ = some z ∧
    ((((w.setCell ⟨k, 0, none⟩ x).setCell ⟨k, 1, none⟩ y).setCell ⟨k, 2, none⟩ z).setCell ⟨k, 3, none⟩ u).cell? ⟨k, 3, none⟩ = some u ∧
    (((((w.setCell ⟨k, 0, none⟩ x).setCell ⟨k, 1, none⟩ y).setCell ⟨k, 2, none⟩ z).setCell ⟨k, 3, none⟩ u).setCell ⟨k, 4, none⟩ v).cell? ⟨k, 4, none⟩ = some v := by
  have h1 := h.set 0 x (by simp)
  have h2 := h1.set 1 y (by simp)
  have h3 := h2.set 2 z (by simp)
  have h4 := h3.set 3 u (by simp)
  have h5 := h4.set 4 v (by simp)
  exact ⟨h1.2.1 0 _ rfl, h2.2.1 1 _ rfl, h3.2.1 2 _ rfl, h4.2.1 3 _ rfl, h5.2.1 4 _ rfl⟩

/-- the walk of a drawn region's head in the order of the text, behind a name that does not unfold -/
@[irreducible] def WS (P : Program) (ops : Array Oper) (w : World) (Q : Act → Prop) (l : List Oper) (a : Act) : Prop := wpStill P ops w Q l a
theorem WS_nil {P : Program} {ops : Array Oper} {w : World} {Q : Act → Prop} {a : Act} (h : Q a) : WS P ops w Q [] a := by unfold WS; exact h
theorem WS_step {P : Program} {ops : Array Oper} {w : World} {Q : Act → Prop} {a : Act} {o : Oper} {rest : List Oper}
    (h : ∀ K : Act → Prop, (∀ a, WS P ops w Q rest a → K a) → if Region.wanted o (yielded ops a.tmps) then o.still P a w K else K (a.put o.dst undef)) : WS P ops w Q (o :: rest) a := by
  unfold WS at *; exact wpStill_step h
/-- a drawn region whose last operations come behind all others, these leaving the world alone -/
theorem wp_still {P : Program} {id : Nat} {Q : Exit → Act → World → Prop} {a : Act} {w : World} {l : List Oper} (n : Nat) (hm : P.follows .mixedOrders = true) (hB : Region.lexTailB .any l.toArray n = true)
    (h : WS P l.toArray w.drew (fun a' => wpList P l.toArray Q (l.drop n) a' w.drew) (l.take n) a) : (Code.region id l.toArray true).wp P Q a w := by
  unfold WS at h; exact wp_region_still_tail n hm hB h

theorem ret_bool {a b : Bool} (h : a = b) : Ending.returned (.bool a) = .returned (.bool b) := by rw [h]
theorem ret_int {k : IntKind} {a b : Int} (h : a = b) : Ending.returned (.int k a) = .returned (.int k b) := by rw [h]
end Go.Proofs.YtgpdggjpbmgegaaDoor
