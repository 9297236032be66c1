/- Plain functions: modules of code as data, and what the layers 9 say of them. No program in sight. How modules of code lie in memory: readings of slices of numbers, spans, instructions and functions, and that they stay while the blocks below a bound stay. From the row's condition to what the walks ask: the listed table lies in block 0. Arguments opened: a module of code, a slice of numbers, as they are read, lie in memory as the walks ask. Package span: none, Has, All, Join, Meet, Length. -/
import Derived.WalkKit
import Derived.Test.YteebpnbdihcfmaaDoorRows
import Derived.WalkSpells
import Derived.WalkLawsBesides
import Derived.Deep.LoopGhost
import Derived.Lib.Hide
import Derived.Deep.Light
import Derived.Deep.DeepCutAuto
import Derived.Deep.CutBlock
import Derived.Deep.QuietTactic
import Derived.BigQuiet
import Derived.StillTailTactics
import Derived.RegionTactic
import Derived.BigRegion
import Derived.IntWalk
import Derived.Outline
import Derived.ProofKit
import Derived.LaidMore
import Derived.OpenShut
import Derived.ChangeOld
import Derived.Below
import Derived.Carry
import Derived.Stop.Joined
import Derived.Deep.Slices
import Derived.Lib.SmallJoins
set_option linter.unusedVariables false
set_option linter.unusedSimpArgs false
set_option maxRecDepth 100000
set_option maxHeartbeats 20000000
namespace Go.Proofs.YteebpnbdihcfmaaDoor
open Go.RowKit
structure PSpan where
 lo : Int
 hi : Int
structure PIns where
 op : Int
 a : Int
 b : Int
 c : Int
 n : Int
structure PFunc where
 name : ByteArray
 params : List PSpan
 regs : Int
 words : Int
 code : List PIns
structure PMod where
 thr : List Int
 funcs : List PFunc
instance : Inhabited PSpan := ⟨⟨0, 0⟩⟩
instance : Inhabited PIns := ⟨⟨0, 0, 0, 0, 0⟩⟩
instance : Inhabited PFunc := ⟨⟨ByteArray.empty, [], 0, 0, []⟩⟩
def letterB (c : UInt8) : Bool := decide (97 ≤ (c.toNat : Int)) && decide ((c.toNat : Int) ≤ 122)
def digitB (c : UInt8) : Bool := decide (48 ≤ (c.toNat : Int)) && decide ((c.toNat : Int) ≤ 57)
/-- byte i of a name may stand there -/
def nameAt (s : ByteArray) (i : Nat) : Bool := letterB (s.data.toList.getD i 0) || (decide (0 < i) && digitB (s.data.toList.getD i 0))
def nameTo (s : ByteArray) (k : Nat) : Prop := ∀ i, i < k → nameAt s i = true
def isNameB (s : ByteArray) : Bool := decide (1 ≤ s.size) && decide (s.size ≤ 16) && (List.range s.size).all (nameAt s)
theorem getD_byte (s : ByteArray) (i : Nat) (h : i < s.size) : s.data.toList.getD i 0 = s[i] := by
 have : i < s.data.toList.length := by simpa using h
 simp [List.getD_eq_getElem?_getD, List.getElem?_eq_getElem this]; rfl
/-- the table of the operations: weight, which fields there are, the kind of N (0 none, 1 number, 2 target, 3 checked, 4 function), and whether A is written -/
structure PRow where
 word : List UInt8
 weight : Int
 a : Bool
 b : Bool
 c : Bool
 n : Int
 writes : Bool
instance : Inhabited PRow := ⟨⟨[], 0, false, false, false, 0, false⟩⟩
def rowsL : List PRow := [⟨[114, 101, 116], 1, true, false, false, 0, false⟩, ⟨[115, 101, 116], 1, true, false, false, 1, true⟩, ⟨[109, 111, 118, 101], 1, true, true, false, 0, true⟩,
 ⟨[97, 100, 100], 1, true, true, true, 0, true⟩, ⟨[115, 117, 98], 1, true, true, true, 0, true⟩, ⟨[109, 117, 108], 3, true, true, true, 0, true⟩, ⟨[100, 105, 118], 8, true, true, true, 0, true⟩,
 ⟨[114, 101, 109], 8, true, true, true, 0, true⟩, ⟨[108, 101, 115, 115], 1, true, true, true, 0, true⟩, ⟨[101, 113, 117, 97, 108], 1, true, true, true, 0, true⟩, ⟨[110, 111, 116], 1, true, true, false, 0, true⟩,
 ⟨[108, 111, 97, 100], 2, true, true, false, 1, true⟩, ⟨[115, 116, 111, 114, 101], 2, true, true, false, 1, false⟩, ⟨[99, 104, 101, 99, 107], 1, true, false, false, 3, false⟩, ⟨[106, 117, 109, 112], 1, false, false, false, 2, false⟩,
 ⟨[105, 102], 1, true, false, false, 2, false⟩, ⟨[117, 110, 108, 101, 115, 115], 1, true, false, false, 2, false⟩, ⟨[99, 111, 117, 110, 116], 1, true, true, false, 2, false⟩, ⟨[115, 116, 101, 112], 1, true, false, false, 2, true⟩,
 ⟨[99, 97, 108, 108], 4, true, true, false, 4, true⟩]
def rowAt (k : Nat) : PRow := rowsL.getD k default
def knownB (op : Int) : Bool := decide (0 ≤ op) && decide (op < 20)
def weightZ (op : Int) : Int := if knownB op then (rowAt op.toNat).weight else 0
/-- the first function of a name; -1: none -/
def findZ (fs : List PFunc) (s : ByteArray) : Int := match fs.findIdx? (fun f => f.name.toList == s.toList) with | some i => i | none => -1
theorem findZ_some (fs : List PFunc) (s : ByteArray) (k : Nat) (hk : k < fs.length) (h : (fs.getD k default).name.toList == s.toList) (hb : ∀ i, i < k → ((fs.getD i default).name.toList == s.toList) = false) : findZ fs s = k := by
 unfold findZ;have : fs.findIdx? (fun f => f.name.toList == s.toList) = some k := by
  rw [List.findIdx?_eq_some_iff_getElem];refine ⟨hk, by simpa [List.getD_eq_getElem?_getD, List.getElem?_eq_getElem hk] using h, fun j hj => ?_⟩;have := hb j hj;simp only [List.getD_eq_getElem?_getD, List.getElem?_eq_getElem (show j < fs.length by omega), Option.getD_some] at this;simp [this]
 rw [this]
theorem findZ_none (fs : List PFunc) (s : ByteArray) (hb : ∀ i, i < fs.length → ((fs.getD i default).name.toList == s.toList) = false) : findZ fs s = -1 := by
 unfold findZ;have : fs.findIdx? (fun f => f.name.toList == s.toList) = none := by
  rw [List.findIdx?_eq_none_iff];intro x hx;obtain ⟨i, hi, rfl⟩ := List.getElem_of_mem hx;have := hb i hi;simpa only [List.getD_eq_getElem?_getD, List.getElem?_eq_getElem hi, Option.getD_some] using this
 rw [this]
theorem findZ_bd (fs : List PFunc) (s : ByteArray) : -1 ≤ findZ fs s ∧ findZ fs s < fs.length := by
 unfold findZ; split
 ·rename_i i h; rw [List.findIdx?_eq_some_iff_getElem] at h; obtain ⟨h, _⟩ := h; omega
 ·omega
/-- the first place of a list where p holds -/
theorem first_some {α : Type} [Inhabited α] (l : List α) (p : α → Bool) (k : Nat) (hk : k < l.length) (h : p (l.getD k default) = true) (hb : ∀ i, i < k → p (l.getD i default) = false) : l.findIdx? p = some k := by
 rw [List.findIdx?_eq_some_iff_getElem];refine ⟨hk, by simpa [List.getD_eq_getElem?_getD, List.getElem?_eq_getElem hk] using h, fun j hj => ?_⟩;have := hb j hj;simp only [List.getD_eq_getElem?_getD, List.getElem?_eq_getElem (show j < l.length by omega), Option.getD_some] at this;simp [this]
theorem first_none {α : Type} [Inhabited α] (l : List α) (p : α → Bool) (hb : ∀ i, i < l.length → p (l.getD i default) = false) : l.findIdx? p = none := by
 rw [List.findIdx?_eq_none_iff];intro x hx;obtain ⟨i, hi, rfl⟩ := List.getElem_of_mem hx;have := hb i hi;simpa only [List.getD_eq_getElem?_getD, List.getElem?_eq_getElem hi, Option.getD_some] using this
theorem getD_eq {α : Type} [Inhabited α] (l : List α) (k : Nat) (h : k < l.length) : l.getD k default = l[k] := by
 simp [List.getD_eq_getElem?_getD, List.getElem?_eq_getElem h]
def emptyB (p : PSpan) : Bool := decide (p.hi < p.lo)
def wholeTail (regs words : Int) (np nc : Nat) : Int × Int :=
 if regs < 1 ∨ 64 < regs ∨ regs < np then (95, 0) else if words < 0 ∨ 4096 < words then (96, 0) else if nc = 0 ∨ 1024 < nc then (97, 0) else (0, 0)
/-- what is wrong with function number f, as a whole; k: the first one of its name -/
def wholeQ (x : PFunc) (k f : Int) : Int × Int :=
 if isNameB x.name = false then (8, 0) else if k < f then (9, 0) else if 8 < x.params.length then (3, 8) else
 match x.params.findIdx? emptyB with
 | some i => ((40 : Int), (i : Int))
 | none => wholeTail x.regs x.words x.params.length x.code.length
def wholeP (m : PMod) (f : Nat) : Int × Int := wholeQ (m.funcs.getD f default) (findZ m.funcs (m.funcs.getD f default).name) f
theorem wholeQ_many (x : PFunc) (k f : Int) (h : isNameB x.name = true) (h2 : ¬ k < f) (h3 : 8 < x.params.length) : wholeQ x k f = (3, 8) := by
 unfold wholeQ; rw [if_neg (by simp [h]), if_neg h2, if_pos h3]
theorem wholeQ_empty (x : PFunc) (k f : Int) (i : Nat) (h : isNameB x.name = true) (h2 : ¬ k < f) (h3 : ¬ 8 < x.params.length) (h4 : x.params.findIdx? emptyB = some i) : wholeQ x k f = ((40 : Int), (i : Int)) := by
 unfold wholeQ; rw [if_neg (by simp [h]), if_neg h2, if_neg h3, h4]
theorem wholeQ_tail (x : PFunc) (k f : Int) (h : isNameB x.name = true) (h2 : ¬ k < f) (h3 : ¬ 8 < x.params.length) (h4 : x.params.findIdx? emptyB = none) : wholeQ x k f = wholeTail x.regs x.words x.params.length x.code.length := by
 unfold wholeQ; rw [if_neg (by simp [h]), if_neg h2, if_neg h3, h4]
/-- what is wrong with a field -/
def fieldP (has : Bool) (r regs : Int) : Int := if has = false ∧ r ≠ 0 then 62 else if has = true ∧ (r < 0 ∨ regs ≤ r) then 61 else 0
def kindP (nf np : Int → Int) (n regs nc b N : Int) : Int :=
 if n = 0 then (if N ≠ 0 then 62 else 0) else if n = 2 then (if N < 0 ∨ nc ≤ N then 63 else 0) else if n = 3 then (if N < 1 ∨ 4096 < N then 2 else 0) else
 if n = 4 then (if N < 0 ∨ nf 0 ≤ N ∨ regs < b + np N then 65 else 0) else 0
theorem kindP_call (nf np : Int → Int) (regs nc b N : Int) (h0 : ¬ N < 0) (h1 : ¬ nf 0 ≤ N) : kindP nf np 4 regs nc b N = if regs < b + np N then 65 else 0 := by
 simp only [kindP, h0, h1, false_or]; simp
def paramsOf (m : PMod) (N : Int) : Int := (m.funcs.getD N.toNat default).params.length
/-- what is wrong with an instruction of a function of so many registers and instructions -/
def rowP (m : PMod) (regs nc : Int) (R : PRow) (x : PIns) : Int :=
 if fieldP R.a x.a regs ≠ 0 then fieldP R.a x.a regs else if fieldP R.b x.b regs ≠ 0 then fieldP R.b x.b regs else if fieldP R.c x.c regs ≠ 0 then fieldP R.c x.c regs else kindP (fun _ => m.funcs.length) (paramsOf m) R.n regs nc x.b x.n
def instrP (m : PMod) (regs nc : Int) (x : PIns) : Int := if knownB x.op = false then 60 else rowP m regs nc (rowAt x.op.toNat) x
def fieldAt (R : PRow) (x : PIns) (regs : Int) (k : Nat) : Int := if k = 0 then fieldP R.a x.a regs else if k = 1 then fieldP R.b x.b regs else fieldP R.c x.c regs
theorem rowP_field (m : PMod) (regs nc : Int) (R : PRow) (x : PIns) (k : Nat) (hk : k < 3) (h : ∀ i, i < k → fieldAt R x regs i = 0) (h2 : fieldAt R x regs k ≠ 0) : rowP m regs nc R x = fieldAt R x regs k := by
 have h0 := h 0; have h1 := h 1;unfold fieldAt at *; unfold rowP;rcases (show k = 0 ∨ k = 1 ∨ k = 2 by omega) with rfl | rfl | rfl <;> simp_all
theorem rowP_kind (m : PMod) (regs nc : Int) (R : PRow) (x : PIns) (h : ∀ i, i < 3 → fieldAt R x regs i = 0) : rowP m regs nc R x = kindP (fun _ => m.funcs.length) (paramsOf m) R.n regs nc x.b x.n := by
 have h0 := h 0; have h1 := h 1; have h2 := h 2;unfold fieldAt at *; unfold rowP
 simp_all
theorem rowN (k : Nat) : 0 ≤ (rowAt k).n ∧ (rowAt k).n ≤ 4 := by
 by_cases h : k < 20
 ·revert h; revert k; decide
 ·have : rowAt k = default := by unfold rowAt; rw [List.getD_eq_getElem?_getD, List.getElem?_eq_none (by simp [rowsL]; omega)]; rfl
  rw [this]; decide
/-- the first number below n where p holds -/
def firstI (n : Nat) (p : Nat → Bool) : Option Nat := (List.range n).find? p
theorem firstI_some (n : Nat) (p : Nat → Bool) (k : Nat) (hk : k < n) (h : p k = true) (hb : ∀ i, i < k → p i = false) : firstI n p = some k := by
 unfold firstI;rw [List.find?_range_eq_some];exact ⟨h, List.mem_range.2 hk, fun j hj => by simp [hb j hj]⟩
theorem firstI_none (n : Nat) (p : Nat → Bool) (hb : ∀ i, i < n → p i = false) : firstI n p = none := by
 unfold firstI; rw [List.find?_range_eq_none]; intro i hi; simp [hb i hi]
theorem firstI_spec {n : Nat} {p : Nat → Bool} {k : Nat} (h : firstI n p = some k) : k < n ∧ p k = true ∧ ∀ i, i < k → p i = false := by
 unfold firstI at h;rw [List.find?_range_eq_some] at h;exact ⟨List.mem_range.1 h.2.1, h.1, fun j hj => by simpa using h.2.2 j hj⟩
theorem firstI_no {n : Nat} {p : Nat → Bool} (h : firstI n p = none) : ∀ i, i < n → p i = false := by
 unfold firstI at h; rw [List.find?_range_eq_none] at h; intro i hi; simpa using h i hi
def thrBad (thr : List Int) (i : Nat) : Bool := decide (1 ≤ i) && decide (thr.getD i 0 ≤ thr.getD (i - 1) 0)
/-- what is wrong with the code of a function -/
def bodyI (m : PMod) (x : PFunc) (i : Nat) : Int := instrP m x.regs x.code.length (x.code.getD i default)
def lastOp (x : PFunc) : Int := (x.code.getD (x.code.length - 1) default).op
def bodyP (m : PMod) (x : PFunc) : Int × Int :=
 match firstI x.code.length (fun i => decide (bodyI m x i ≠ 0)) with
 | some i => (bodyI m x i, (i : Int))
 | none => if lastOp x = 0 ∨ lastOp x = 14 ∨ lastOp x = 18 then (0, 0) else (64, (x.code.length : Int) - 1)
structure PFault where
 e : Int
 f : Int
 at_ : Int
def mayFuncs (m : PMod) : PFault :=
 match firstI m.funcs.length (fun f => decide ((bodyP m (m.funcs.getD f default)).1 ≠ 0)) with
 | some f => ⟨(bodyP m (m.funcs.getD f default)).1, f, (bodyP m (m.funcs.getD f default)).2⟩
 | none => ⟨0, 0, 0⟩
def mayWholes (m : PMod) : PFault :=
 match firstI m.funcs.length (fun f => decide ((wholeP m f).1 ≠ 0)) with
 | some f => ⟨(wholeP m f).1, f, (wholeP m f).2⟩
 | none => mayFuncs m
/-- what is wrong first with a module -/
def mayP (m : PMod) : PFault :=
 if 16 < m.thr.length then ⟨3, 0, 16⟩ else
 match firstI m.thr.length (thrBad m.thr) with
 | some i => ⟨66, 0, i⟩
 | none => if 32 < m.funcs.length then ⟨3, 32, 0⟩ else mayWholes m
theorem wholeTail_ok {regs words : Int} {np nc : Nat} (h : (wholeTail regs words np nc).1 = 0) : 1 ≤ regs ∧ regs ≤ 64 ∧ np ≤ regs ∧ 0 ≤ words ∧ words ≤ 4096 ∧ 1 ≤ nc ∧ nc ≤ 1024 := by
 unfold wholeTail at h; grind
theorem wholeP_ok {m : PMod} {f : Nat} (h : (wholeP m f).1 = 0) :
 isNameB (m.funcs.getD f default).name = true ∧ (f : Int) ≤ findZ m.funcs (m.funcs.getD f default).name ∧ (m.funcs.getD f default).params.length ≤ 8 ∧ 1 ≤ (m.funcs.getD f default).regs ∧ (m.funcs.getD f default).regs ≤ 64 ∧ (m.funcs.getD f default).params.length ≤ (m.funcs.getD f default).regs ∧
 0 ≤ (m.funcs.getD f default).words ∧ (m.funcs.getD f default).words ≤ 4096 ∧ 1 ≤ (m.funcs.getD f default).code.length ∧ (m.funcs.getD f default).code.length ≤ 1024 ∧ (m.funcs.getD f default).params.findIdx? emptyB = none := by
 unfold wholeP at h;generalize m.funcs.getD f default = x at *;unfold wholeQ at h;split at h
 ·simp at h
 ·split at h
  ·simp at h
  ·split at h
   ·simp at h
   ·split at h
    ·simp at h
    ·have := wholeTail_ok h;rename_i h1 h2 h3 _ h4;exact ⟨by simpa using h1, by omega, by omega, this.1, this.2.1, this.2.2.1, this.2.2.2.1, this.2.2.2.2.1, this.2.2.2.2.2.1, this.2.2.2.2.2.2, h4⟩
/-- may arguments be handed to parameters? -/
def inB (p : PSpan) (x : Int) : Bool := !decide (x < p.lo) && !decide (p.hi < x)
def fitAt (ps : List PSpan) (xs : List Int) (i : Nat) : Bool := inB (ps.getD i default) (xs.getD i 0)
def fitsB (ps : List PSpan) (xs : List Int) : Bool := decide (xs.length = ps.length) && (List.range ps.length).all (fitAt ps xs)
theorem fitsB_len (ps : List PSpan) (xs : List Int) (h : xs.length ≠ ps.length) : fitsB ps xs = false := by simp [fitsB, h]
theorem fitsB_not (ps : List PSpan) (xs : List Int) (k : Nat) (hk : k < ps.length) (h : fitAt ps xs k = false) : fitsB ps xs = false := by
 have : (List.range ps.length).all (fitAt ps xs) = false := by
  rw [List.all_eq_false]; exact ⟨k, List.mem_range.2 hk, by rw [h]; decide⟩
 simp [fitsB, this]
theorem fitsB_yes (ps : List PSpan) (xs : List Int) (h : xs.length = ps.length) (h2 : ∀ i, i < ps.length → fitAt ps xs i = true) : fitsB ps xs = true := by
 have : (List.range ps.length).all (fitAt ps xs) = true := by
  rw [List.all_eq_true]; intro i hi; exact h2 i (List.mem_range.1 hi)
 simp [fitsB, this, h]
def In64 (n : Int) : Prop := -9223372036854775808 ≤ n ∧ n ≤ 9223372036854775807
/-- below block B the cells of w' are those of w -/
def Same (B : Nat) (w w' : World) : Prop := ∀ b o, b < B → w'.cell? ⟨b, o, none⟩ = w.cell? ⟨b, o, none⟩
theorem Same.refl (B : Nat) (w : World) : Same B w w := fun _ _ _ => rfl
theorem Same.trans {B : Nat} {a b c : World} (h : Same B a b) (k : Same B b c) : Same B a c := fun x o hx => (k x o hx).trans (h x o hx)
theorem Same.of {B : Nat} {w w' : World} (h : Below w.heap.size w w') (hB : B ≤ w.heap.size) : Same B w w' := fun b o hb => h.cell (p := ⟨b, o, none⟩) (by simp; omega)
theorem Same.of' {B : Nat} {w w' : World} (h : Below B w w') : Same B w w' := fun b o hb => h.cell (p := ⟨b, o, none⟩) hb
theorem Same.alloc {B : Nat} {a w : World} (h : Same B a w) (hB : B ≤ w.heap.size) (o : Obj) : Same B a (w.alloc o) := fun x i hx => by
 rw [World.cell?_alloc_lt _ _ _ (by show x < _; omega)]; exact h x i hx
theorem Same.setCell {B : Nat} {a w : World} (h : Same B a w) {p : Addr} (hp : B ≤ p.block) (u : Value) : Same B a (w.setCell p u) := fun x i hx => by
 rw [World.cell?_setCell_other _ _ _ _ (by intro e; subst e; simp at hp; omega)]; exact h x i hx
theorem Below.drewN {B : Nat} {a w : World} (h : Below B a w) (n : Nat) : Below B a (w.drewN n) := ⟨h.os, h.tape, h.output, h.size, h.block⟩
theorem Same.drew {B : Nat} {a w : World} (h : Same B a w) : Same B a w.drew := h
theorem Same.drewN {B : Nat} {a w : World} (h : Same B a w) (n : Nat) : Same B a (w.drewN n) := h
/-- old cells and marks read as before -/
theorem bcell {W w1 : World} (hb : Below W.heap.size W w1) : (∀ b o, b < W.heap.size → w1.cell? ⟨b, o, none⟩ = W.cell? ⟨b, o, none⟩) ∧ (∀ b o, b < W.heap.size → w1.frozen? ⟨b, o, none⟩ = W.frozen? ⟨b, o, none⟩) :=
 ⟨fun b o h => hb.cell (p := ⟨b, o, none⟩) h, fun b o h => hb.frozen (p := ⟨b, o, none⟩) h⟩
/-- a slice's base: n elements at b, o -/
def BaseAt (B : Nat) (a : Option Addr) (n b o : Nat) : Prop := 0 < n → a = some ⟨b, o, none⟩ ∧ b < B
def NumsAt (B : Nat) (w : World) (a : Option Addr) (n : Nat) (zs : List Int) : Prop :=
 zs.length = n ∧ n ≤ maxLen ∧ ∃ b o, BaseAt B a n b o ∧ ∀ i, i < n → w.cell? ⟨b, o + i, none⟩ = some (.int .i64 (zs.getD i 0)) ∧ In64 (zs.getD i 0)
def SpansAt (B : Nat) (w : World) (a : Option Addr) (n : Nat) (zs : List PSpan) : Prop :=
 zs.length = n ∧ n ≤ maxLen ∧ ∃ b o, BaseAt B a n b o ∧ ∀ i, i < n → w.cell? ⟨b, o + i * 2, none⟩ = some (.int .i64 (zs.getD i default).lo) ∧ w.cell? ⟨b, o + i * 2 + 1, none⟩ = some (.int .i64 (zs.getD i default).hi) ∧
  In64 (zs.getD i default).lo ∧ In64 (zs.getD i default).hi
def InsOk (x : PIns) : Prop := In64 x.op ∧ In64 x.a ∧ In64 x.b ∧ In64 x.c ∧ In64 x.n
def InsCells (w : World) (b o : Nat) (x : PIns) : Prop :=
 w.cell? ⟨b, o, none⟩ = some (.int .i64 x.op) ∧ w.cell? ⟨b, o + 1, none⟩ = some (.int .i64 x.a) ∧ w.cell? ⟨b, o + 2, none⟩ = some (.int .i64 x.b) ∧ w.cell? ⟨b, o + 3, none⟩ = some (.int .i64 x.c) ∧ w.cell? ⟨b, o + 4, none⟩ = some (.int .i64 x.n)
def InsVal (x : PIns) : Value := .agg #[.int .i64 x.op, .int .i64 x.a, .int .i64 x.b, .int .i64 x.c, .int .i64 x.n]
def CodeAt (B : Nat) (w : World) (a : Option Addr) (n : Nat) (zs : List PIns) : Prop :=
 zs.length = n ∧ n ≤ maxLen ∧ ∃ b o, BaseAt B a n b o ∧ ∀ i, i < n → InsCells w b (o + i * 5) (zs.getD i default) ∧ InsOk (zs.getD i default)
/-- the image of a function in five cells: its name, the slices' headers, the numbers -/
structure HF where
 pa : Option Addr
 pl : Nat
 pc : Nat
 ca : Option Addr
 cl : Nat
 cc : Nat
instance : Inhabited HF := ⟨⟨none, 0, 0, none, 0, 0⟩⟩
def FuncVal (h : HF) (f : PFunc) : Value := .agg #[.string f.name, .slice h.pa h.pl h.pc, .int .i64 f.regs, .int .i64 f.words, .slice h.ca h.cl h.cc]
def FuncOk (B : Nat) (w : World) (h : HF) (f : PFunc) : Prop :=
 f.name.size ≤ maxLen ∧ SpansAt B w h.pa h.pl f.params ∧ CodeAt B w h.ca h.cl f.code ∧ In64 f.regs ∧ In64 f.words
def FuncCells (w : World) (b o : Nat) (h : HF) (f : PFunc) : Prop :=
 w.cell? ⟨b, o, none⟩ = some (.string f.name) ∧ w.cell? ⟨b, o + 1, none⟩ = some (.slice h.pa h.pl h.pc) ∧ w.cell? ⟨b, o + 2, none⟩ = some (.int .i64 f.regs) ∧ w.cell? ⟨b, o + 3, none⟩ = some (.int .i64 f.words) ∧ w.cell? ⟨b, o + 4, none⟩ = some (.slice h.ca h.cl h.cc)
def FuncsAt (B : Nat) (w : World) (a : Option Addr) (n : Nat) (fs : List PFunc) : Prop :=
 fs.length = n ∧ n ≤ maxLen ∧ ∃ b o, BaseAt B a n b o ∧ ∃ H : Nat → HF, ∀ i, i < n → FuncCells w b (o + i * 5) (H i) (fs.getD i default) ∧ FuncOk B w (H i) (fs.getD i default)
def ModAt (B : Nat) (w : World) (v : Value) (m : PMod) : Prop :=
 ∃ ta tl tc fa fl fc, v = .agg #[.slice ta tl tc, .slice fa fl fc] ∧ NumsAt B w ta tl m.thr ∧ FuncsAt B w fa fl m.funcs
theorem NumsAt.same {B : Nat} {w w' : World} {a : Option Addr} {n : Nat} {zs : List Int} (h : NumsAt B w a n zs) (s : Same B w w') : NumsAt B w' a n zs := by
 obtain ⟨h1, h2, b, o, h3, h4⟩ := h;exact ⟨h1, h2, b, o, h3, fun i hi => ⟨by rw [s _ _ (h3 (by omega)).2]; exact (h4 i hi).1, (h4 i hi).2⟩⟩
theorem SpansAt.same {B : Nat} {w w' : World} {a : Option Addr} {n : Nat} {zs : List PSpan} (h : SpansAt B w a n zs) (s : Same B w w') : SpansAt B w' a n zs := by
 obtain ⟨h1, h2, b, o, h3, h4⟩ := h;exact ⟨h1, h2, b, o, h3, fun i hi => ⟨by rw [s _ _ (h3 (by omega)).2]; exact (h4 i hi).1, by rw [s _ _ (h3 (by omega)).2]; exact (h4 i hi).2.1, (h4 i hi).2.2⟩⟩
theorem InsCells.same {w w' : World} {b o B : Nat} {x : PIns} (h : InsCells w b o x) (s : Same B w w') (hb : b < B) : InsCells w' b o x := by
 obtain ⟨h0, h1, h2, h3, h4⟩ := h;exact ⟨by rw [s _ _ hb]; exact h0, by rw [s _ _ hb]; exact h1, by rw [s _ _ hb]; exact h2, by rw [s _ _ hb]; exact h3, by rw [s _ _ hb]; exact h4⟩
theorem CodeAt.same {B : Nat} {w w' : World} {a : Option Addr} {n : Nat} {zs : List PIns} (h : CodeAt B w a n zs) (s : Same B w w') : CodeAt B w' a n zs := by
 obtain ⟨h1, h2, b, o, h3, h4⟩ := h;exact ⟨h1, h2, b, o, h3, fun i hi => ⟨(h4 i hi).1.same s (h3 (by omega)).2, (h4 i hi).2⟩⟩
theorem FuncOk.same {B : Nat} {w w' : World} {h : HF} {f : PFunc} (k : FuncOk B w h f) (s : Same B w w') : FuncOk B w' h f := by
 obtain ⟨h1, h2, h3, h4, h5⟩ := k;exact ⟨h1, h2.same s, h3.same s, h4, h5⟩
theorem FuncCells.same {w w' : World} {b o B : Nat} {h : HF} {f : PFunc} (k : FuncCells w b o h f) (s : Same B w w') (hb : b < B) : FuncCells w' b o h f := by
 obtain ⟨h0, h1, h2, h3, h4⟩ := k;exact ⟨by rw [s _ _ hb]; exact h0, by rw [s _ _ hb]; exact h1, by rw [s _ _ hb]; exact h2, by rw [s _ _ hb]; exact h3, by rw [s _ _ hb]; exact h4⟩
theorem FuncsAt.same {B : Nat} {w w' : World} {a : Option Addr} {n : Nat} {fs : List PFunc} (h : FuncsAt B w a n fs) (s : Same B w w') : FuncsAt B w' a n fs := by
 obtain ⟨h1, h2, b, o, h3, H, h4⟩ := h;exact ⟨h1, h2, b, o, h3, H, fun i hi => ⟨(h4 i hi).1.same s (h3 (by omega)).2, (h4 i hi).2.same s⟩⟩
theorem ModAt.same {B : Nat} {w w' : World} {v : Value} {m : PMod} (h : ModAt B w v m) (s : Same B w w') : ModAt B w' v m := by
 obtain ⟨ta, tl, tc, fa, fl, fc, rfl, h1, h2⟩ := h;exact ⟨ta, tl, tc, fa, fl, fc, rfl, h1.same s, h2.same s⟩
/-- the table of operations lies in block 0 -/
def RowsAt (w : World) : Prop := 0 < w.heap.size ∧ ∀ k, k < 20 → w.cell? ⟨0, k * 7, none⟩ = some (.string ⟨(rowAt k).word.toArray⟩) ∧ w.cell? ⟨0, k * 7 + 1, none⟩ = some (.int .i64 (rowAt k).weight) ∧ w.cell? ⟨0, k * 7 + 2, none⟩ = some (.bool (rowAt k).a) ∧
 w.cell? ⟨0, k * 7 + 3, none⟩ = some (.bool (rowAt k).b) ∧ w.cell? ⟨0, k * 7 + 4, none⟩ = some (.bool (rowAt k).c) ∧ w.cell? ⟨0, k * 7 + 5, none⟩ = some (.int .i64 (rowAt k).n) ∧ w.cell? ⟨0, k * 7 + 6, none⟩ = some (.bool (rowAt k).writes)
theorem RowsAt.same {B : Nat} {w w' : World} (h : RowsAt w) (s : Same B w w') (hB : 0 < B) (hs : w.heap.size ≤ w'.heap.size) : RowsAt w' := by
 obtain ⟨h0, h⟩ := h;refine ⟨by omega, fun k hk => ?_⟩;obtain ⟨a, b, c, d, e, f, g⟩ := h k hk;exact ⟨by rw [s _ _ hB]; exact a, by rw [s _ _ hB]; exact b, by rw [s _ _ hB]; exact c, by rw [s _ _ hB]; exact d, by rw [s _ _ hB]; exact e, by rw [s _ _ hB]; exact f, by rw [s _ _ hB]; exact g⟩
/-- a block of the call's own: its cells, none of which is frozen -/
def Own (w : World) (k : Nat) (cs : List Value) : Prop := k < w.heap.size ∧ (∀ i v, cs[i]? = some v → w.cell? ⟨k, i, none⟩ = some v) ∧ ∀ i, w.frozen? ⟨k, i, none⟩ = false
theorem Own.below {w w' : World} {k : Nat} {cs : List Value} (h : Own w k cs) (hb : Below w.heap.size w w') : Own w' k cs :=
 ⟨Nat.lt_of_lt_of_le h.1 hb.size, fun i v hv => by rw [hb.cell (p := ⟨k, i, none⟩) h.1]; exact h.2.1 i v hv, fun i => by rw [hb.frozen (p := ⟨k, i, none⟩) h.1]; exact h.2.2 i⟩
theorem Own.alloc {w : World} {k : Nat} {cs : List Value} (h : Own w k cs) (o : Obj) : Own (w.alloc o) k cs := h.below ((Below.refl _ _).alloc (Nat.le_refl _) o)
theorem Own.drew {w : World} {k : Nat} {cs : List Value} (h : Own w k cs) : Own w.drew k cs := h
theorem Own.drewN {w : World} {k : Nat} {cs : List Value} (h : Own w k cs) (n : Nat) : Own (w.drewN n) k cs := h
theorem Own.new (w : World) (c : List Value) (t : TypeId) : Own (w.alloc (.cells c.toArray t)) w.heap.size c :=
 ⟨by simp, fun i v hv => by simp [hv], fun i => by simp⟩
theorem Own.new' (w : World) (c : List Value) (t : TypeId) (k : Nat) (hk : k = w.heap.size) : Own (w.alloc (.cells c.toArray t)) k c := by subst hk; exact Own.new w c t
theorem Own.set {w : World} {k : Nat} {cs : List Value} (h : Own w k cs) (i : Nat) (u : Value) (hi : i < cs.length) : Own (w.setCell ⟨k, i, none⟩ u) k (cs.set i u) := by
 refine ⟨by simpa using h.1, fun j v hv => ?_, fun j => by simpa using h.2.2 j⟩;by_cases e : j = i
 ·subst e;rw [List.getElem?_set_self hi] at hv;rw [World.cell?_setCell_same _ _ _ (h.2.1 j _ (List.getElem?_eq_getElem hi))]; exact hv
 ·rw [List.getElem?_set_ne (by omega)] at hv;rw [World.cell?_setCell_other _ _ _ _ (by intro x; injection x; omega)]; exact h.2.1 j v hv
theorem Own.setOther {w : World} {k : Nat} {cs : List Value} (h : Own w k cs) {p : Addr} (u : Value) (hp : p.block ≠ k) : Own (w.setCell p u) k cs := by
 refine ⟨by simpa using h.1, fun j v hv => ?_, fun j => by simpa using h.2.2 j⟩;rw [World.cell?_setCell_other _ _ _ _ (by intro x; subst x; exact hp rfl)]; exact h.2.1 j v hv
theorem own1 {w : World} {k : Nat} {a : Value} (h : Own w k [a]) : k < w.heap.size ∧ w.cell? ⟨k, 0, none⟩ = some a ∧ w.frozen? ⟨k, 0, none⟩ = false := ⟨h.1, h.2.1 0 _ rfl, h.2.2 0⟩
theorem own2 {w : World} {k : Nat} {a b : Value} (h : Own w k [a, b]) : k < w.heap.size ∧ w.cell? ⟨k, 0, none⟩ = some a ∧ w.cell? ⟨k, 1, none⟩ = some b ∧ w.frozen? ⟨k, 0, none⟩ = false ∧ w.frozen? ⟨k, 1, none⟩ = false :=
 ⟨h.1, h.2.1 0 _ rfl, h.2.1 1 _ rfl, h.2.2 0, h.2.2 1⟩
theorem own3 {w : World} {k : Nat} {a b c : Value} (h : Own w k [a, b, c]) : k < w.heap.size ∧ w.cell? ⟨k, 0, none⟩ = some a ∧ w.cell? ⟨k, 1, none⟩ = some b ∧ w.cell? ⟨k, 2, none⟩ = some c ∧ w.frozen? ⟨k, 0, none⟩ = false ∧ w.frozen? ⟨k, 1, none⟩ = false ∧ w.frozen? ⟨k, 2, none⟩ = false :=
 ⟨h.1, h.2.1 0 _ rfl, h.2.1 1 _ rfl, h.2.1 2 _ rfl, h.2.2 0, h.2.2 1, h.2.2 2⟩
theorem own5 {w : World} {k : Nat} {a b c d e : Value} (h : Own w k [a, b, c, d, e]) : k < w.heap.size ∧ w.cell? ⟨k, 0, none⟩ = some a ∧ w.cell? ⟨k, 1, none⟩ = some b ∧ w.cell? ⟨k, 2, none⟩ = some c ∧ w.cell? ⟨k, 3, none⟩ = some d ∧ w.cell? ⟨k, 4, none⟩ = some e ∧
 w.frozen? ⟨k, 0, none⟩ = false ∧ w.frozen? ⟨k, 1, none⟩ = false ∧ w.frozen? ⟨k, 2, none⟩ = false ∧ w.frozen? ⟨k, 3, none⟩ = false ∧ w.frozen? ⟨k, 4, none⟩ = false :=
 ⟨h.1, h.2.1 0 _ rfl, h.2.1 1 _ rfl, h.2.1 2 _ rfl, h.2.1 3 _ rfl, h.2.1 4 _ rfl, h.2.2 0, h.2.2 1, h.2.2 2, h.2.2 3, h.2.2 4⟩
/-- a struct of three cells, written whole -/
theorem set3 {w : World} {k : Nat} {a b c : Value} (h : Own w k [a, b, c]) (x y z : Value) :
 (w.setCell ⟨k, 0, none⟩ x).cell? ⟨k, 0, none⟩ = some x ∧ ((w.setCell ⟨k, 0, none⟩ x).setCell ⟨k, 1, none⟩ y).cell? ⟨k, 1, none⟩ = some y ∧
 (((w.setCell ⟨k, 0, none⟩ x).setCell ⟨k, 1, none⟩ y).setCell ⟨k, 2, none⟩ z).cell? ⟨k, 2, none⟩ = some z := by
 have h1 := h.set 0 x (by simp);have h2 := h1.set 1 y (by simp);have h3 := h2.set 2 z (by simp);exact ⟨h1.2.1 0 _ rfl, h2.2.1 1 _ rfl, h3.2.1 2 _ rfl⟩
/-- a struct of five cells, written whole -/
theorem set5 {w : World} {k : Nat} {a b c d e : Value} (h : Own w k [a, b, c, d, e]) (x y z u v : Value) :
 (w.setCell ⟨k, 0, none⟩ x).cell? ⟨k, 0, none⟩ = some x ∧ ((w.setCell ⟨k, 0, none⟩ x).setCell ⟨k, 1, none⟩ y).cell? ⟨k, 1, none⟩ = some y ∧
 (((w.setCell ⟨k, 0, none⟩ x).setCell ⟨k, 1, none⟩ y).setCell ⟨k, 2, none⟩ z).cell? ⟨k, 2, none⟩ = some z ∧
 ((((w.setCell ⟨k, 0, none⟩ x).setCell ⟨k, 1, none⟩ y).setCell ⟨k, 2, none⟩ z).setCell ⟨k, 3, none⟩ u).cell? ⟨k, 3, none⟩ = some u ∧
 (((((w.setCell ⟨k, 0, none⟩ x).setCell ⟨k, 1, none⟩ y).setCell ⟨k, 2, none⟩ z).setCell ⟨k, 3, none⟩ u).setCell ⟨k, 4, none⟩ v).cell? ⟨k, 4, none⟩ = some v := by
 have h1 := h.set 0 x (by simp);have h2 := h1.set 1 y (by simp);have h3 := h2.set 2 z (by simp);have h4 := h3.set 3 u (by simp);have h5 := h4.set 4 v (by simp);exact ⟨h1.2.1 0 _ rfl, h2.2.1 1 _ rfl, h3.2.1 2 _ rfl, h4.2.1 3 _ rfl, h5.2.1 4 _ rfl⟩
/-- the walk of a drawn region's head in the order of the text, behind a name that does not unfold -/
@[irreducible] def WS (P : Program) (ops : Array Oper) (w : World) (Q : Act → Prop) (l : List Oper) (a : Act) : Prop := wpStill P ops w Q l a
theorem WS_nil {P : Program} {ops : Array Oper} {w : World} {Q : Act → Prop} {a : Act} (h : Q a) : WS P ops w Q [] a := by unfold WS; exact h
theorem WS_step {P : Program} {ops : Array Oper} {w : World} {Q : Act → Prop} {a : Act} {o : Oper} {rest : List Oper}
 (h : ∀ K : Act → Prop, (∀ a, WS P ops w Q rest a → K a) → if Region.wanted o (yielded ops a.tmps) then o.still P a w K else K (a.put o.dst undef)) : WS P ops w Q (o :: rest) a := by
 unfold WS at *; exact wpStill_step h
/-- a drawn region whose last operations come behind all others, these leaving the world alone -/
theorem wp_still {P : Program} {id : Nat} {Q : Exit → Act → World → Prop} {a : Act} {w : World} {l : List Oper} (n : Nat) (hm : P.follows .mixedOrders = true) (hB : Region.lexTailB .any l.toArray n = true)
 (h : WS P l.toArray w.drew (fun a' => wpList P l.toArray Q (l.drop n) a' w.drew) (l.take n) a) : (Code.region id l.toArray true).wp P Q a w := by
 unfold WS at h; exact wp_region_still_tail n hm hB h
theorem ret_bool {a b : Bool} (h : a = b) : Ending.returned (.bool a) = .returned (.bool b) := by rw [h]
theorem ret_int {k : IntKind} {a b : Int} (h : a = b) : Ending.returned (.int k a) = .returned (.int k b) := by rw [h]
/-- words for what is said often: their proofs are looked for where they stand -/
theorem bel {B : Nat} {a w : World} (h : Below B a w := by repeat (first | with_reducible exact Below.refl _ _ | with_reducible assumption | with_reducible refine Below.drew ?_ | with_reducible refine Below.drewN ?_ _ | with_reducible refine Below.alloc ?_ (by first | omega | (simp <;> omega) | (simp at * <;> omega)) _ | with_reducible refine Below.setCell ?_ (by first | omega | (simp <;> omega) | (simp at * <;> omega)) _ | (with_reducible refine Below.trans ?_ (Below.mono (by first | with_reducible assumption | exact hF _) (by first | omega | (simp <;> omega) | (simp at * <;> omega)))))) : Below B a w := h
theorem samq {B : Nat} {a w : World} (h : Same B a w := by repeat (first | with_reducible exact Same.refl _ _ | with_reducible assumption | with_reducible refine Same.drew ?_ | with_reducible refine Same.drewN ?_ _ | with_reducible refine Same.alloc ?_ (by first | omega | (simp <;> omega) | (simp at * <;> omega)) _ | with_reducible refine Same.setCell ?_ (by first | omega | (simp <;> omega) | (simp at * <;> omega)) _ | (with_reducible refine Same.trans ?_ (Same.of (by assumption) (by first | omega | (simp <;> omega) | (simp at * <;> omega)))))) : Same B a w := h
theorem GE.{u} : (∀ {α : Type u} (l : List α) (i : Nat) (h : i < l.toArray.size), l.toArray[i] = l[i]'(by simpa using h)) ∧ (∀ {α : Type u} (a : α) (l : List α) (i : Nat) (h : i + 1 < (a :: l).length), (a :: l)[i + 1] = l[i]'(by simpa using h)) ∧ (∀ {α : Type u} (a : α) (l : List α) (h : 0 < (a :: l).length), (a :: l)[0] = a) := ⟨fun l i h => by simp, fun _ _ _ _ => rfl, fun _ _ _ => rfl⟩
theorem mkF {P : Program} : ∀ (fn : Fn) (first cap : Array Value) (w : World), (Instr.makeFunc fn first cap).run P w = .ok (.func fn first cap) w := fun _ _ _ _ => rfl
theorem own_four {w W : World} {c0 c1 c2 c3 : List Value} {t0 t1 t2 t3 : TypeId} (h : (((w.alloc (.cells c0.toArray t0)).alloc (.cells c1.toArray t1)).alloc (.cells c2.toArray t2)).alloc (.cells c3.toArray t3) = W) :
 Below w.heap.size w W ∧ Own W w.heap.size c0 ∧ Own W (w.heap.size + 1) c1 ∧ Own W (w.heap.size + 1 + 1) c2 ∧ Own W (w.heap.size + 1 + 1 + 1) c3 ∧ w.heap.size + 4 ≤ W.heap.size := by
 subst h;exact ⟨bel, (((Own.new _ _ _).alloc _).alloc _).alloc _, ((Own.new' _ _ _ _ (by simp)).alloc _).alloc _, (Own.new' _ _ _ _ (by simp)).alloc _, Own.new' _ _ _ _ (by simp), by simp⟩
theorem own_three {w W : World} {c0 c1 c2 : List Value} {t0 t1 t2 : TypeId} (h : ((w.alloc (.cells c0.toArray t0)).alloc (.cells c1.toArray t1)).alloc (.cells c2.toArray t2) = W) :
 Below w.heap.size w W ∧ Own W w.heap.size c0 ∧ Own W (w.heap.size + 1) c1 ∧ Own W (w.heap.size + 1 + 1) c2 ∧ w.heap.size + 3 ≤ W.heap.size := by
 subst h;exact ⟨bel, ((Own.new _ _ _).alloc _).alloc _, (Own.new' _ _ _ _ (by simp)).alloc _, Own.new' _ _ _ _ (by simp), by simp⟩
theorem own_two {w W : World} {c0 c1 : List Value} {t0 t1 : TypeId} (h : (w.alloc (.cells c0.toArray t0)).alloc (.cells c1.toArray t1) = W) :
 Below w.heap.size w W ∧ Own W w.heap.size c0 ∧ Own W (w.heap.size + 1) c1 ∧ w.heap.size + 2 ≤ W.heap.size := by
 subst h;exact ⟨bel, (Own.new _ _ _).alloc _, Own.new' _ _ _ _ (by simp), by simp⟩
theorem own_one {w W : World} {c0 : List Value} {t0 : TypeId} (h : w.alloc (.cells c0.toArray t0) = W) : Below w.heap.size w W ∧ Own W w.heap.size c0 ∧ w.heap.size + 1 ≤ W.heap.size := by
 subst h;exact ⟨bel, Own.new _ _ _, by simp⟩
end Go.Proofs.YteebpnbdihcfmaaDoor
namespace Go.Proofs.YteebpnbdihcfmaaDoor
open Go.ChangeShapes Go.WideShapes Go.ChangeAt Go.RowKit
theorem own : ownKnob Tryd.prog.godebug = none := by kernel_rfl
theorem laidOut : laidOutB Tryd.prog = true := by kernel_rfl
def laidL : List (String × DataW Unit) := [("soffit/code.rows", Rows.laid_soffit_code_rows)]
/-- The door's own heap meets the condition: three closed facts. -/
theorem door_met (os : Os) (args : Array Value) : laidMetH Tryd.prog laidL ((World.doorLaid Tryd.prog 34 os).forCall (fun _ _ => 0) ⟨#[], args, []⟩).memory :=
 laidMetH_of_parts3 (fuel := 8) (laidMet_of_run' 8 (by kernel_rfl) (by kernel_rfl)) (by kernel_rfl) (by kernel_rfl)
theorem lt_of_cell? {w : World} {a : Addr} {v : Value} (h : w.cell? a = some v) : a.block < w.heap.size := by
 unfold World.cell? at h;split at h
 ·rename_i hb; exact (Array.getElem?_eq_some_iff.1 hb).1
 all_goals cases h
/-- one row of the table, read -/
theorem row_read {H : Type} {enc : TypeId × Value → H} {W : World} {base fuel : Nat} {sp : Nat → Bool} {hd : Bool} {cs : List Value} {x : DataW H × List MemPlace} (h : DataW.trod enc Tryd.prog W base sp hd fuel 117 cs = some x)
 {s : List UInt8} {wt n : Int} {a b c wr : Bool} (hx : x.1 = .agg [.lit (.string s), .lit (.int .i64 wt), .lit (.bool a), .lit (.bool b), .lit (.bool c), .lit (.int .i64 n), .lit (.bool wr)]) :
 cs = [.string ⟨s.toArray⟩, .int .i64 wt, .bool a, .bool b, .bool c, .int .i64 n, .bool wr] := by
 obtain ⟨xs, m, rfl, rfl, hl, hlen, hf⟩ := DataW.trod_struct Tryd.underlying117 h;have c9 : Tryd.prog.cellsOf 9 = 1 := by kernel_rfl
 have c2 : Tryd.prog.cellsOf 2 = 1 := by kernel_rfl
 have c3 : Tryd.prog.cellsOf 3 = 1 := by kernel_rfl
 have c4 : Tryd.prog.cellsOf 4 = 1 := by kernel_rfl
 have c109 : Tryd.prog.cellsOf 117 = 7 := by kernel_rfl
 rw [c109] at hl
 match cs, hl with
 | [q0, q1, q2, q3, q4, q5, q6], _ =>
  match xs, hlen with
  | [y0, y1, y2, y3, y4, y5, y6], _ =>
   have k0 : DataW.trod enc Tryd.prog W base sp hd m 9 [q0] = some y0 := by have := hf 0 _ rfl; simpa [c9] using this
   have k1 : DataW.trod enc Tryd.prog W base sp hd m 2 [q1] = some y1 := by have := hf 1 _ rfl; simpa [c2] using this
   have k2 : DataW.trod enc Tryd.prog W base sp hd m 4 [q2] = some y2 := by have := hf 2 _ rfl; simpa [c4] using this
   have k3 : DataW.trod enc Tryd.prog W base sp hd m 4 [q3] = some y3 := by have := hf 3 _ rfl; simpa [c4] using this
   have k4 : DataW.trod enc Tryd.prog W base sp hd m 4 [q4] = some y4 := by have := hf 4 _ rfl; simpa [c4] using this
   have k5 : DataW.trod enc Tryd.prog W base sp hd m 3 [q5] = some y5 := by have := hf 5 _ rfl; simpa [c3] using this
   have k6 : DataW.trod enc Tryd.prog W base sp hd m 4 [q6] = some y6 := by have := hf 6 _ rfl; simpa [c4] using this
   obtain ⟨z0, e0, r0, _⟩ := DataW.trod_string Tryd.underlying9 k0;obtain ⟨z1, e1, r1, _⟩ := DataW.trod_int Tryd.underlying2 k1;obtain ⟨z2, e2, r2⟩ := DataW.trod_bool Tryd.underlying4 k2;obtain ⟨z3, e3, r3⟩ := DataW.trod_bool Tryd.underlying4 k3;obtain ⟨z4, e4, r4⟩ := DataW.trod_bool Tryd.underlying4 k4;obtain ⟨z5, e5, r5, _⟩ := DataW.trod_int Tryd.underlying3 k5;obtain ⟨z6, e6, r6⟩ := DataW.trod_bool Tryd.underlying4 k6;subst r0 r1 r2 r3 r4 r5 r6;simp only [List.cons.injEq, and_true] at e0 e1 e2 e3 e4 e5 e6;subst e0 e1 e2 e3 e4 e5 e6;simp only [List.map_cons, List.map_nil, DataW.agg.injEq, List.cons.injEq, DataW.lit.injEq, Lit.string.injEq, Lit.int.injEq, Lit.bool.injEq, true_and, and_true] at hx;obtain ⟨rfl, rfl, rfl, rfl, rfl, rfl, rfl⟩ := hx;rfl
/-- what the condition gives the walks -/
theorem rows_of_laid {W : World} (h : laidMetH Tryd.prog laidL W) : RowsAt W := by
 rw [MakeChecks.laidMetH_plain _ _ _ (by kernel_rfl)] at h;obtain ⟨ps, ⟨g0, t0, cs0, f0, p0, q0, hg0, ht0, hv0, hd0, _, _⟩, _, _⟩ := h;obtain rfl : (0 : Nat) = g0 := Option.some.inj ((show Tryd.prog.globalNamed "soffit/code.rows" = some 0 by kernel_rfl).symm.trans hg0);obtain rfl : 118 = t0 := Option.some.inj ((show (Tryd.prog.globals[0]?).map (·.type) = some 118 by kernel_rfl).symm.trans ht0);obtain ⟨xs, m1, rfl, hx1, hlen, hn, hel⟩ := DataW.trod_array Tryd.underlying118 hd0;have c109 : Tryd.prog.cellsOf 117 = 7 := by kernel_rfl
 rw [c109] at hel;simp only [Prod.mk.injEq] at hx1;have hx := hx1.1;unfold Rows.laid_soffit_code_rows at hx;simp only [DataW.agg.injEq] at hx;have hcell := fun i => World.var?_cell hg0 hv0 i;have key : ∀ k, k < 20 → ((cs0.toList.drop (k * 7)).take 7) = [.string ⟨(rowAt k).word.toArray⟩, .int .i64 (rowAt k).weight, .bool (rowAt k).a, .bool (rowAt k).b, .bool (rowAt k).c, .int .i64 (rowAt k).n, .bool (rowAt k).writes] := by
  intro k hk;have hk2 := hel k hk;rw [List.getElem?_eq_getElem (by omega)] at hk2;refine row_read hk2 ?_;have h3 : (xs.map (·.1))[k]? = some xs[k].1 := by simp [List.getElem?_eq_getElem (show k < xs.length by omega)]
  rw [← hx] at h3;have h4 : (rowsL.map fun R => (DataW.agg [.lit (.string R.word), .lit (.int .i64 R.weight), .lit (.bool R.a), .lit (.bool R.b), .lit (.bool R.c), .lit (.int .i64 R.n), .lit (.bool R.writes)] : DataW Unit))[k]? = some xs[k].1 := h3;rw [List.getElem?_map] at h4;have h5 : rowsL[k]? = some (rowAt k) := by
   unfold rowAt; rw [List.getD_eq_getElem?_getD, List.getElem?_eq_getElem (by exact hk)]; rfl
  rw [h5] at h4;simpa using h4.symm
 have hc : ∀ k j v, k < 20 → j < 7 → ([.string ⟨(rowAt k).word.toArray⟩, .int .i64 (rowAt k).weight, .bool (rowAt k).a, .bool (rowAt k).b, .bool (rowAt k).c, .int .i64 (rowAt k).n, .bool (rowAt k).writes] : List Value)[j]? = some v → W.cell? ⟨0, k * 7 + j, none⟩ = some v := by
  intro k j v hk hj hv;rw [hcell, ← hv, ← key k hk, List.getElem?_take_of_lt hj, List.getElem?_drop];simp
 refine ⟨?_, fun k hk => ⟨hc k 0 _ hk (by omega) rfl, hc k 1 _ hk (by omega) rfl, hc k 2 _ hk (by omega) rfl, hc k 3 _ hk (by omega) rfl, hc k 4 _ hk (by omega) rfl, hc k 5 _ hk (by omega) rfl, hc k 6 _ hk (by omega) rfl⟩⟩;have := lt_of_cell? (hc 0 0 _ (by omega) (by omega) rfl);simpa using this
end Go.Proofs.YteebpnbdihcfmaaDoor
namespace Go.Proofs.YteebpnbdihcfmaaDoor
open Go.ChangeShapes Go.WideShapes Go.ChangeAt Go.RowKit Go.Deep Go.Joins
theorem wf64 {n : Int} (h : (Lit.int .i64 n).wf = true) : In64 n := bounds_i64 h
theorem c2 : Tryd.prog.cellsOf 2 = 1 := by kernel_rfl
theorem c3 : Tryd.prog.cellsOf 3 = 1 := by kernel_rfl
theorem c9 : Tryd.prog.cellsOf 9 = 1 := by kernel_rfl
theorem c49 : Tryd.prog.cellsOf 40 = 1 := by kernel_rfl
theorem c48 : Tryd.prog.cellsOf 41 = 1 := by kernel_rfl
theorem c74 : Tryd.prog.cellsOf 53 = 2 := by kernel_rfl
theorem c47 : Tryd.prog.cellsOf 51 = 5 := by kernel_rfl
theorem c51 : Tryd.prog.cellsOf 43 = 5 := by kernel_rfl
/-- the address of a cell that is there -/
theorem at_spot {w : World} {a : Addr} {k : Nat} {v : Value} (h : w.cell? (a.add k) = some v) : a = ⟨a.block, a.off, none⟩ ∨ 0 < k := by
 by_cases hk : k = 0
 ·subst hk;have h2 := World.cell?_spot h;obtain ⟨b, o, s⟩ := a;simp [Addr.add] at h2;subst h2;exact .inl rfl
 ·exact .inr (by omega)
theorem add_plain (b o k : Nat) : (⟨b, o, none⟩ : Addr).add k = ⟨b, o + k, none⟩ := by
 unfold Addr.add; split
 ·rename_i h; simp [h]
 ·rfl
section
variable {H : Type} {enc : TypeId × Value → H} {W : World} {base : Nat} {sp : Nat → Bool} {hd : Bool}
theorem open_nums {fuel : Nat} {cs : List Value} {x : DataW H × List MemPlace} (h : DataW.trod enc Tryd.prog W base sp hd fuel 26 cs = some x) : ∃ a n c zs, cs = [.slice a n c] ∧ NumsAt W.heap.size W a n zs ∧ n ≤ c ∧ c ≤ maxLen := by
 rcases open_slice1 Tryd.underlying26 c2 h with ⟨rfl, _⟩ | ⟨a, len, cap, m, n, V, D, Pl, rfl, hb, hl, hm, hmm, _, hx⟩
 ·exact ⟨none, 0, 0, [], rfl, ⟨rfl, Nat.zero_le _, 0, 0, fun h => absurd h (Nat.lt_irrefl 0), fun i h => absurd h (Nat.not_lt_zero i)⟩, Nat.le_refl _, Nat.zero_le _⟩
 ·have hlm : len ≤ m := by rw [hmm]; split <;> omega
  obtain ⟨Z, hZ⟩ := choose_lt (α := Int) (n := len) (p := fun i z => W.cell? (a.add i) = some (.int .i64 z) ∧ In64 z) (fun i hi => by
   obtain ⟨h1, h2⟩ := hx i (by omega);obtain ⟨z, e1, _, e3⟩ := DataW.trod_int Tryd.underlying2 h2;simp only [List.cons.injEq, and_true] at e1;exact ⟨z, by rw [h1, e1], wf64 e3⟩)
  refine ⟨some a, len, cap, (List.range len).map Z, rfl, ⟨by simp, by omega, a.block, a.off, fun h0 => ?_, fun i hi => ?_⟩, hl, hm⟩
  ·have h1 := (hZ 0 h0).1;refine ⟨?_, ?_⟩
   ·rcases at_spot h1 with e | e
    ·rw [← e]
    ·omega
   ·have := lt_of_cell? h1; simpa [Addr.add] using this
  ·have e : a = ⟨a.block, a.off, none⟩ := by
    rcases at_spot (hZ 0 (by omega)).1 with e | e
    ·exact e
    ·omega
   have h1 := hZ i hi;rw [e, add_plain] at h1;have e2 : ((List.range len).map Z).getD i 0 = Z i := by simp [List.getD_eq_getElem?_getD, List.getElem?_map, List.getElem?_range hi]
   rw [e2];exact h1
theorem open_span {fuel : Nat} {cs : List Value} {x : DataW H × List MemPlace} (h : DataW.trod enc Tryd.prog W base sp hd fuel 53 cs = some x) : ∃ p : PSpan, cs = [.int .i64 p.lo, .int .i64 p.hi] ∧ In64 p.lo ∧ In64 p.hi := by
 obtain ⟨y0, y1, n, _, hl, h0, h1⟩ := trod_struct2 Tryd.underlying53 h;rw [c74] at hl
 match cs, hl with
 | [q0, q1], _ =>
  have k0 : DataW.trod enc Tryd.prog W base sp hd n 2 [q0] = some y0 := by simpa [c2] using h0
  have k1 : DataW.trod enc Tryd.prog W base sp hd n 2 [q1] = some y1 := by simpa [c2] using h1
  obtain ⟨z0, e0, _, w0⟩ := DataW.trod_int Tryd.underlying2 k0;obtain ⟨z1, e1, _, w1⟩ := DataW.trod_int Tryd.underlying2 k1;exact ⟨⟨z0, z1⟩, by simp_all, wf64 w0, wf64 w1⟩
theorem open_ins {fuel : Nat} {cs : List Value} {x : DataW H × List MemPlace} (h : DataW.trod enc Tryd.prog W base sp hd fuel 51 cs = some x) : ∃ p : PIns, cs = [.int .i64 p.op, .int .i64 p.a, .int .i64 p.b, .int .i64 p.c, .int .i64 p.n] ∧ InsOk p := by
 obtain ⟨xs, m, rfl, rfl, hl, hlen, hf⟩ := DataW.trod_struct Tryd.underlying51 h;rw [c47] at hl
 match cs, hl with
 | [q0, q1, q2, q3, q4], _ =>
  match xs, hlen with
  | [y0, y1, y2, y3, y4], _ =>
   have k0 : DataW.trod enc Tryd.prog W base sp hd m 3 [q0] = some y0 := by have := hf 0 _ rfl; simpa [c3] using this
   have k1 : DataW.trod enc Tryd.prog W base sp hd m 3 [q1] = some y1 := by have := hf 1 _ rfl; simpa [c3] using this
   have k2 : DataW.trod enc Tryd.prog W base sp hd m 3 [q2] = some y2 := by have := hf 2 _ rfl; simpa [c3] using this
   have k3 : DataW.trod enc Tryd.prog W base sp hd m 3 [q3] = some y3 := by have := hf 3 _ rfl; simpa [c3] using this
   have k4 : DataW.trod enc Tryd.prog W base sp hd m 2 [q4] = some y4 := by have := hf 4 _ rfl; simpa [c2] using this
   obtain ⟨z0, e0, _, w0⟩ := DataW.trod_int Tryd.underlying3 k0;obtain ⟨z1, e1, _, w1⟩ := DataW.trod_int Tryd.underlying3 k1;obtain ⟨z2, e2, _, w2⟩ := DataW.trod_int Tryd.underlying3 k2;obtain ⟨z3, e3, _, w3⟩ := DataW.trod_int Tryd.underlying3 k3;obtain ⟨z4, e4, _, w4⟩ := DataW.trod_int Tryd.underlying2 k4;simp only [List.cons.injEq, and_true] at e0 e1 e2 e3 e4;subst e0 e1 e2 e3 e4;exact ⟨⟨z0, z1, z2, z3, z4⟩, rfl, wf64 w0, wf64 w1, wf64 w2, wf64 w3, wf64 w4⟩
/-- a slice of elements of k cells: each element's cells -/
theorem open_elems {t e : TypeId} {k : Nat} (hk0 : 0 < k) (ht : Tryd.prog.underlying t = some (.slice e)) (hc : Tryd.prog.cellsOf e = k) {α : Type} [Inhabited α] (q : α → List Value → Prop)
 (hq : ∀ (n : Nat) (cs : List Value) (y : DataW H × List MemPlace), DataW.trod enc Tryd.prog W base sp hd n e cs = some y → ∃ z, q z cs)
 {fuel : Nat} {cs : List Value} {x : DataW H × List MemPlace} (h : DataW.trod enc Tryd.prog W base sp hd fuel t cs = some x) :
 ∃ a n c, ∃ zs : List α, cs = [.slice a n c] ∧ zs.length = n ∧ n ≤ maxLen ∧ ∃ b o, BaseAt W.heap.size a n b o ∧ ∀ i, i < n → ∃ ce, ce.length = k ∧ q (zs.getD i default) ce ∧ ∀ j, j < k → W.cell? ⟨b, o + i * k + j, none⟩ = ce[j]? := by
 rcases open_slice ht h with ⟨rfl, _⟩ | ⟨a, len, cap, m, n, D, Pl, rfl, hb, hl, hm, hmm, _, hx⟩
 ·exact ⟨none, 0, 0, [], rfl, rfl, Nat.zero_le _, 0, 0, fun h => absurd h (Nat.lt_irrefl 0), fun i h => absurd h (Nat.not_lt_zero i)⟩
 ·have hlm : len ≤ m := by rw [hmm]; split <;> omega
  have hx2 : ∀ i, i < len → ∃ z, ∃ ce, ce.length = k ∧ q z ce ∧ ∀ j, j < k → W.cell? ((a.add (i * k)).add j) = ce[j]? := by
   intro i hi;obtain ⟨ce, h1, h2⟩ := hx i (by omega);rw [hc] at h1;obtain ⟨_, hlen, hce⟩ := World.cells?_some h1;obtain ⟨z, hz⟩ := hq _ _ _ h2;exact ⟨z, ce, hlen, hz, hce⟩
  obtain ⟨Z, hZ⟩ := choose_lt hx2;have ha : 0 < len → a = ⟨a.block, a.off, none⟩ ∧ a.block < W.heap.size := by
   intro h0;obtain ⟨ce, hcl, _, hce⟩ := hZ 0 h0;have h1 := hce 0 hk0;rw [List.getElem?_eq_getElem (by omega)] at h1;simp only [Nat.zero_mul] at h1;have e0 : (a.add 0).add 0 = a.add 0 := by simp [Addr.add]
   rw [e0] at h1;refine ⟨?_, ?_⟩
   ·rcases at_spot h1 with e | e
    ·exact e
    ·omega
   ·have := lt_of_cell? h1; simpa [Addr.add] using this
  refine ⟨some a, len, cap, (List.range len).map Z, rfl, by simp, by omega, a.block, a.off, fun h0 => ⟨by rw [← (ha h0).1], (ha h0).2⟩, fun i hi => ?_⟩;obtain ⟨ce, hcl, hz, hce⟩ := hZ i hi;have e2 : ((List.range len).map Z).getD i default = Z i := by simp [List.getD_eq_getElem?_getD, List.getElem?_map, List.getElem?_range hi]
  rw [e2];refine ⟨ce, hcl, hz, fun j hj => ?_⟩;have := hce j hj;rw [(ha (by omega)).1, add_plain, add_plain] at this;exact this
theorem open_spans {fuel : Nat} {cs : List Value} {x : DataW H × List MemPlace} (h : DataW.trod enc Tryd.prog W base sp hd fuel 40 cs = some x) : ∃ a n c zs, cs = [.slice a n c] ∧ SpansAt W.heap.size W a n zs := by
 obtain ⟨a, n, c, zs, rfl, hl, hm, b, o, hb, hz⟩ := open_elems (k := 2) (by omega) Tryd.underlying40 c74 (fun (p : PSpan) cs => cs = [.int .i64 p.lo, .int .i64 p.hi] ∧ In64 p.lo ∧ In64 p.hi) (fun n cs y h => open_span h) h;refine ⟨a, n, c, zs, rfl, hl, hm, b, o, hb, fun i hi => ?_⟩;obtain ⟨ce, _, ⟨rfl, w0, w1⟩, hc⟩ := hz i hi;exact ⟨hc 0 (by omega), hc 1 (by omega), w0, w1⟩
theorem open_code {fuel : Nat} {cs : List Value} {x : DataW H × List MemPlace} (h : DataW.trod enc Tryd.prog W base sp hd fuel 41 cs = some x) : ∃ a n c zs, cs = [.slice a n c] ∧ CodeAt W.heap.size W a n zs := by
 obtain ⟨a, n, c, zs, rfl, hl, hm, b, o, hb, hz⟩ := open_elems (k := 5) (by omega) Tryd.underlying41 c47 (fun (p : PIns) cs => cs = [.int .i64 p.op, .int .i64 p.a, .int .i64 p.b, .int .i64 p.c, .int .i64 p.n] ∧ InsOk p) (fun n cs y h => open_ins h) h;refine ⟨a, n, c, zs, rfl, hl, hm, b, o, hb, fun i hi => ?_⟩;obtain ⟨ce, _, ⟨rfl, w0⟩, hc⟩ := hz i hi;exact ⟨⟨hc 0 (by omega), hc 1 (by omega), hc 2 (by omega), hc 3 (by omega), hc 4 (by omega)⟩, w0⟩
theorem open_func {fuel : Nat} {cs : List Value} {x : DataW H × List MemPlace} (h : DataW.trod enc Tryd.prog W base sp hd fuel 43 cs = some x) :
 ∃ (f : PFunc) (k : HF), cs = [.string f.name, .slice k.pa k.pl k.pc, .int .i64 f.regs, .int .i64 f.words, .slice k.ca k.cl k.cc] ∧ FuncOk W.heap.size W k f := by
 obtain ⟨xs, m, rfl, rfl, hl, hlen, hf⟩ := DataW.trod_struct Tryd.underlying43 h;rw [c51] at hl
 match cs, hl with
 | [q0, q1, q2, q3, q4], _ =>
  match xs, hlen with
  | [y0, y1, y2, y3, y4], _ =>
   have k0 : DataW.trod enc Tryd.prog W base sp hd m 9 [q0] = some y0 := by have := hf 0 _ rfl; simpa [c9] using this
   have k1 : DataW.trod enc Tryd.prog W base sp hd m 40 [q1] = some y1 := by have := hf 1 _ rfl; simpa [c49] using this
   have k2 : DataW.trod enc Tryd.prog W base sp hd m 3 [q2] = some y2 := by have := hf 2 _ rfl; simpa [c3] using this
   have k3 : DataW.trod enc Tryd.prog W base sp hd m 3 [q3] = some y3 := by have := hf 3 _ rfl; simpa [c3] using this
   have k4 : DataW.trod enc Tryd.prog W base sp hd m 41 [q4] = some y4 := by have := hf 4 _ rfl; simpa [c48] using this
   obtain ⟨z0, e0, _, w0⟩ := DataW.trod_string Tryd.underlying9 k0;obtain ⟨pa, pl, pc, ps, e1, w1⟩ := open_spans k1;obtain ⟨z2, e2, _, w2⟩ := DataW.trod_int Tryd.underlying3 k2;obtain ⟨z3, e3, _, w3⟩ := DataW.trod_int Tryd.underlying3 k3;obtain ⟨ca, cl, cc, zs, e4, w4⟩ := open_code k4;simp only [List.cons.injEq, and_true] at e0 e1 e2 e3 e4;subst e0 e1 e2 e3 e4;exact ⟨⟨z0, ps, z2, z3, zs⟩, ⟨pa, pl, pc, ca, cl, cc⟩, rfl, w0, w1, w4, wf64 w2, wf64 w3⟩
instance : Inhabited (PFunc × HF) := ⟨(default, default)⟩
theorem open_funcs {fuel : Nat} {cs : List Value} {x : DataW H × List MemPlace} (h : DataW.trod enc Tryd.prog W base sp hd fuel 27 cs = some x) : ∃ a n c zs, cs = [.slice a n c] ∧ FuncsAt W.heap.size W a n zs := by
 obtain ⟨a, n, c, zs, rfl, hl, hm, b, o, hb, hz⟩ := open_elems (k := 5) (by omega) Tryd.underlying27 c51 (fun (p : PFunc × HF) cs => cs = [.string p.1.name, .slice p.2.pa p.2.pl p.2.pc, .int .i64 p.1.regs, .int .i64 p.1.words, .slice p.2.ca p.2.cl p.2.cc] ∧ FuncOk W.heap.size W p.2 p.1)
  (fun n cs y h => by obtain ⟨f, k, e⟩ := open_func h; exact ⟨(f, k), e⟩) h
 refine ⟨a, n, c, zs.map (·.1), rfl, by simpa using hl, hm, b, o, hb, fun i => (zs.getD i default).2, fun i hi => ?_⟩;obtain ⟨ce, _, ⟨rfl, w0⟩, hc⟩ := hz i hi;have e : (zs.map (·.1)).getD i default = (zs.getD i default).1 := by
  simp [List.getD_eq_getElem?_getD, List.getElem?_map, List.getElem?_eq_getElem (show i < zs.length by omega)]
 rw [e];exact ⟨⟨hc 0 (by omega), hc 1 (by omega), hc 2 (by omega), hc 3 (by omega), hc 4 (by omega)⟩, w0⟩
theorem open_mod {r : Reach} {b0 : Nat} {v : Value} {d : DataW H} {p : List MemPlace} (hv : Value.okWide Tryd.prog W r b0 29 v) (h : DataW.Trod enc Tryd.prog W base sp hd 29 v d p) : ∃ m, ModAt W.heap.size W v m := by
 obtain ⟨v0, v1, y0, y1, n, rfl, _, _, h0, h1⟩ := open_agg2 Tryd.underlying29 (by kernel_rfl) (by kernel_rfl) hv h;obtain ⟨ta, tl, tc, zs, e0, w0, _⟩ := open_nums h0;obtain ⟨fa, fl, fc, fs, e1, w1⟩ := open_funcs h1;simp only [List.cons.injEq, and_true] at e0 e1;subst e0 e1;exact ⟨⟨zs, fs⟩, ta, tl, tc, fa, fl, fc, rfl, w0, w1⟩
theorem open_numsV {v : Value} {d : DataW H} {p : List MemPlace} {r : Reach} {b0 : Nat} (hv : Value.okWide Tryd.prog W r b0 26 v) (h : DataW.Trod enc Tryd.prog W base sp hd 26 v d p) : ∃ a n c zs, v = .slice a n c ∧ NumsAt W.heap.size W a n zs ∧ n ≤ c ∧ c ≤ maxLen := by
 obtain ⟨a0, n0, c0, rfl⟩ := okWide_slice Tryd.underlying26 hv;obtain ⟨fuel, hf⟩ := h;obtain ⟨a, n, c, zs, e, w0, w1⟩ := open_nums hf;simp [Value.cells] at e;obtain ⟨rfl, rfl, rfl⟩ := e;exact ⟨a0, n0, c0, zs, rfl, w0, w1⟩
end
end Go.Proofs.YteebpnbdihcfmaaDoor
namespace Go.Proofs.YteebpnbdihcfmaaDoor
open Go.RowKit
def spanV (p : PSpan) : Value := .agg #[.int .i64 p.lo, .int .i64 p.hi]
def joinP (a b : PSpan) : PSpan := if a.hi < a.lo then b else if b.hi < b.lo then a else ⟨min a.lo b.lo, max a.hi b.hi⟩
def meetP (a b : PSpan) : PSpan := ⟨max a.lo b.lo, min a.hi b.hi⟩
theorem snone_any (a : PSpan) (w : World) : Calls Tryd.prog 29 #[spanV a] w fun e w' => e = .returned (.bool (emptyB a)) ∧ Below w.heap.size w w' := by
 obtain ⟨lo, hi⟩ := a;unfold spanV emptyB;dsimp only;go_enter Tryd.func29, Tryd.ntmps29;go_wp2;go_ret;go_light;exact ⟨rfl, bel⟩
theorem shas_any (a : PSpan) (n : Int) (w : World) : Calls Tryd.prog 60 #[spanV a, .int .i64 n] w fun e w' => e = .returned (.bool (decide (a.lo ≤ n) && decide (n ≤ a.hi))) ∧ Below w.heap.size w w' := by
 obtain ⟨lo, hi⟩ := a;unfold spanV;dsimp only;by_cases h1 : lo ≤ n
 ·have d1 : decide (lo ≤ n) = true := by simpa using h1
  go_enter Tryd.func60, Tryd.ntmps60;go_wp2;go_ret;go_light
  first | exact ⟨rfl, bel⟩ | exact ⟨by simp [d1], bel⟩
 ·have d1 : decide (lo ≤ n) = false := by simpa using h1
  go_enter Tryd.func60, Tryd.ntmps60;go_wp2;go_ret;go_light
  first | exact ⟨rfl, bel⟩ | exact ⟨by simp [d1], bel⟩
theorem set2 {w : World} {k : Nat} {a b : Value} (h : Own w k [a, b]) (x y : Value) : (w.setCell ⟨k, 0, none⟩ x).cell? ⟨k, 0, none⟩ = some x ∧ ((w.setCell ⟨k, 0, none⟩ x).setCell ⟨k, 1, none⟩ y).cell? ⟨k, 1, none⟩ = some y :=
 ⟨(h.set 0 x (by simp)).2.1 0 _ rfl, ((h.set 0 x (by simp)).set 1 y (by simp)).2.1 1 _ rfl⟩
theorem ret2 {a b a' b' : Int} (h : a = a') (h' : b = b') : Ending.returned (.agg #[.int .i64 a, .int .i64 b]) = .returned (.agg #[.int .i64 a', .int .i64 b']) := by rw [h, h']
theorem join_end (Q : Ending → World → Prop) (T : Array Value) (W : World) (k : Nat) (lo hi : Int) (ho : Own W k [.int .i64 lo, .int .i64 hi]) (hT : T[4]? = some (.pointer (some ⟨k, 0, none⟩))) (ex : Exit) (hx : ex = .ret ∨ ex = .normal)
 (hq : Q (.returned (.agg #[.int .i64 lo, .int .i64 hi])) W) : bodyPost Tryd.prog Tryd.f10 Q ex { tmps := T, defers := [] } W := by
 obtain ⟨_, r0, r1, _⟩ := own2 ho;have hr : (results Tryd.f10 T).run Tryd.prog W = .ok (.agg #[.int .i64 lo, .int .i64 hi]) W := by
  simp [results, Tryd.results10, go_sem, hT, r0, r1]
 rcases hx with rfl | rfl
 ·exact bodyPost_ret hr rfl hq
 ·exact ⟨rfl, _, hr, hq⟩
theorem sjoin_any (a b : PSpan) (w : World) : Calls Tryd.prog 10 #[spanV a, spanV b] w fun e w' => e = .returned (spanV (joinP a b)) ∧ Below w.heap.size w w' := by
 have HA := Lib.hid (fun w => snone_any a w);have HB := Lib.hid (fun w => snone_any b w);obtain ⟨lo, hi⟩ := a;obtain ⟨lo2, hi2⟩ := b;unfold spanV emptyB at HA HB;unfold spanV joinP;dsimp only at *;by_cases h1 : hi < lo
 ·have d1 : decide (hi < lo) = true := by simpa using h1
  rw [if_pos h1];rw [d1] at HA;go_enter Tryd.func10, Tryd.ntmps10;go_wp2_with (first | (go_at_call 29; refine (HA.out _).mono ?_; rintro e w1 ⟨rfl, hb1⟩; have qa := own2 ((((Own.new w [.int .i64 lo, .int .i64 hi] 53).alloc (.cells #[.int .i64 lo2, .int .i64 hi2] 53)).alloc (.cells #[.int .i64 0, .int .i64 0] 53)).below hb1); have qb := own2 (((Own.new' (w.alloc (.cells #[.int .i64 lo, .int .i64 hi] 53)) [.int .i64 lo2, .int .i64 hi2] 53 (w.heap.size + 1) (by simp)).alloc (.cells #[.int .i64 0, .int .i64 0] 53)).below hb1); have hr1 := (Own.new' ((w.alloc (.cells #[.int .i64 lo, .int .i64 hi] 53)).alloc (.cells #[.int .i64 lo2, .int .i64 hi2] 53)) [.int .i64 0, .int .i64 0] 53 (w.heap.size + 1 + 1) (by simp)).below hb1; have qr := own2 hr1; have sr := set2 hr1; have hz1 := hb1.size) | fail)
  refine join_end _ _ _ (w.heap.size + 1 + 1) lo2 hi2 ((hr1.set 0 _ (by simp)).set 1 _ (by simp)) rfl _ (by simp) ⟨rfl, bel⟩
 ·have d1 : decide (hi < lo) = false := by simpa using h1
  rw [if_neg h1];rw [d1] at HA;by_cases h2 : hi2 < lo2
  ·have d2 : decide (hi2 < lo2) = true := by simpa using h2
   rw [if_pos h2];rw [d2] at HB;go_enter Tryd.func10, Tryd.ntmps10;go_wp2_with (first | (go_at_call 29; refine (HA.out _).mono ?_; rintro e w1 ⟨rfl, hb1⟩; have qa := own2 ((((Own.new w [.int .i64 lo, .int .i64 hi] 53).alloc (.cells #[.int .i64 lo2, .int .i64 hi2] 53)).alloc (.cells #[.int .i64 0, .int .i64 0] 53)).below hb1); have hq1 := (Own.new' (w.alloc (.cells #[.int .i64 lo, .int .i64 hi] 53)) [.int .i64 lo2, .int .i64 hi2] 53 (w.heap.size + 1) (by simp)).alloc (.cells #[.int .i64 0, .int .i64 0] 53); have qb := own2 (hq1.below hb1); have hr1 := (Own.new' ((w.alloc (.cells #[.int .i64 lo, .int .i64 hi] 53)).alloc (.cells #[.int .i64 lo2, .int .i64 hi2] 53)) [.int .i64 0, .int .i64 0] 53 (w.heap.size + 1 + 1) (by simp)).below hb1; have hp1 := ((((Own.new w [.int .i64 lo, .int .i64 hi] 53).alloc (.cells #[.int .i64 lo2, .int .i64 hi2] 53)).alloc (.cells #[.int .i64 0, .int .i64 0] 53)).below hb1); have hz1 := hb1.size; clear HA) | (go_at_call 29; refine (HB.out _).mono ?_; rintro e w2 ⟨rfl, hb2⟩; have qa2 := own2 (hp1.below (hb2.mono (by first | omega | (simp <;> omega) | (simp at * <;> omega)))); have qb2 := own2 ((hq1.below hb1).below (hb2.mono (by first | omega | (simp <;> omega) | (simp at * <;> omega)))); have hr2 := hr1.below (hb2.mono (by first | omega | (simp <;> omega) | (simp at * <;> omega))); have qr2 := own2 hr2; have sr2 := set2 hr2; have hz2 := hb2.size; have hb3 := hb1.trans (hb2.mono (by first | omega | (simp <;> omega) | (simp at * <;> omega))); clear HB) | fail)
   refine join_end _ _ _ (w.heap.size + 1 + 1) lo hi ((hr2.set 0 _ (by simp)).set 1 _ (by simp)) rfl _ (by simp) ⟨rfl, bel⟩
  ·have d2 : decide (hi2 < lo2) = false := by simpa using h2
   rw [if_neg h2];rw [d2] at HB;go_enter Tryd.func10, Tryd.ntmps10;go_wp2_with (first | (go_at_call 29; refine (HA.out _).mono ?_; rintro e w1 ⟨rfl, hb1⟩; have qa := own2 ((((Own.new w [.int .i64 lo, .int .i64 hi] 53).alloc (.cells #[.int .i64 lo2, .int .i64 hi2] 53)).alloc (.cells #[.int .i64 0, .int .i64 0] 53)).below hb1); have hq1 := (Own.new' (w.alloc (.cells #[.int .i64 lo, .int .i64 hi] 53)) [.int .i64 lo2, .int .i64 hi2] 53 (w.heap.size + 1) (by simp)).alloc (.cells #[.int .i64 0, .int .i64 0] 53); have qb := own2 (hq1.below hb1); have hr1 := (Own.new' ((w.alloc (.cells #[.int .i64 lo, .int .i64 hi] 53)).alloc (.cells #[.int .i64 lo2, .int .i64 hi2] 53)) [.int .i64 0, .int .i64 0] 53 (w.heap.size + 1 + 1) (by simp)).below hb1; have hp1 := ((((Own.new w [.int .i64 lo, .int .i64 hi] 53).alloc (.cells #[.int .i64 lo2, .int .i64 hi2] 53)).alloc (.cells #[.int .i64 0, .int .i64 0] 53)).below hb1); have hz1 := hb1.size; clear HA) | (go_at_call 29; refine (HB.out _).mono ?_; rintro e w2 ⟨rfl, hb2⟩; have qa2 := own2 (hp1.below (hb2.mono (by first | omega | (simp <;> omega) | (simp at * <;> omega)))); have qb2 := own2 ((hq1.below hb1).below (hb2.mono (by first | omega | (simp <;> omega) | (simp at * <;> omega)))); have hr2 := hr1.below (hb2.mono (by first | omega | (simp <;> omega) | (simp at * <;> omega))); have qr2 := own2 hr2; have sr2 := set2 hr2; have hz2 := hb2.size; have hb3 := hb1.trans (hb2.mono (by first | omega | (simp <;> omega) | (simp at * <;> omega))); clear HB) | fail)
   all_goals refine join_end _ _ _ (w.heap.size + 1 + 1) _ _ ((hr2.set 0 _ (by simp)).set 1 _ (by simp)) rfl _ (by simp) ⟨ret2 (by omega) (by omega), bel⟩
def allP : PSpan := ⟨-9223372036854775808, 9223372036854775807⟩
def hasP (a : PSpan) (n : Int) : Bool := decide (a.lo ≤ n) && decide (n ≤ a.hi)
theorem ret_ib {a a' : Int} {b b' : Bool} {k : IntKind} (h : a = a') (h' : b = b') : Ending.returned (.tuple #[.int k a, .bool b]) = .returned (.tuple #[.int k a', .bool b']) := by rw [h, h']
theorem ret_sb {a b a' b' : Int} {c c' : Bool} (h : a = a') (h' : b = b') (h2 : c = c') : Ending.returned (.tuple #[.agg #[.int .i64 a, .int .i64 b], .bool c]) = .returned (.tuple #[.agg #[.int .i64 a', .int .i64 b'], .bool c']) := by rw [h, h', h2]
theorem own_set2 {w : World} {k : Nat} {a b x y : Value} (h : Own w k [a, b]) : Own ((w.setCell ⟨k, 0, none⟩ x).setCell ⟨k, 1, none⟩ y) k [x, y] := (h.set 0 x (by simp)).set 1 y (by simp)
theorem ownbq {w : World} {k : Nat} {cs : List Value} (h : Own w k cs := by repeat (first | with_reducible assumption | (with_reducible apply own_set2) | (with_reducible refine Own.new' _ [_, _] _ _ ?hk; case hk => (simp; done)) | with_reducible refine Own.drew ?_ | with_reducible refine Own.drewN ?_ _ | with_reducible refine Own.alloc ?_ _ | with_reducible refine Own.below ?_ (by with_reducible assumption) | (with_reducible refine Own.setOther ?_ _ ?hk; case hk => (first | (simp; done) | (simp; omega))))) : Own w k cs := h
/-- a result of two cells -/
theorem span_end {F : Func} {i : Nat} {Q : Ending → World → Prop} {T : Array Value} {W : World} {k : Nat} {lo hi : Int} (hF : F.results = #[.cell i 53]) (hT : T[i]? = some (.pointer (some ⟨k, 0, none⟩))) (ho : Own W k [.int .i64 lo, .int .i64 hi]) {ex : Exit} (hx : ex = .ret ∨ ex = .normal)
 (hq : Q (.returned (.agg #[.int .i64 lo, .int .i64 hi])) W) : bodyPost Tryd.prog F Q ex { tmps := T, defers := [] } W := by
 obtain ⟨_, r0, r1, _⟩ := own2 ho;have hr : (results F T).run Tryd.prog W = .ok (.agg #[.int .i64 lo, .int .i64 hi]) W := by
  simp [results, hF, go_sem, hT, r0, r1]
 rcases hx with rfl | rfl
 ·exact bodyPost_ret hr rfl hq
 ·exact ⟨rfl, _, hr, hq⟩
/-- a result of two cells, and a flag -/
theorem flag_end {F : Func} {i j : Nat} {Q : Ending → World → Prop} {T : Array Value} {W : World} {k : Nat} {lo hi : Int} {b : Bool} (hF : F.results = #[.cell i 53, .tmp j]) (hT : T[i]? = some (.pointer (some ⟨k, 0, none⟩))) (hT2 : T[j]? = some (.bool b)) (ho : Own W k [.int .i64 lo, .int .i64 hi]) {ex : Exit} (hx : ex = .ret ∨ ex = .normal)
 (hq : Q (.returned (.tuple #[.agg #[.int .i64 lo, .int .i64 hi], .bool b])) W) : bodyPost Tryd.prog F Q ex { tmps := T, defers := [] } W := by
 obtain ⟨_, r0, r1, _⟩ := own2 ho;have hr : (results F T).run Tryd.prog W = .ok (.tuple #[.agg #[.int .i64 lo, .int .i64 hi], .bool b]) W := by
  simp [results, hF, go_sem, hT, hT2, r0, r1]
 rcases hx with rfl | rfl
 ·exact bodyPost_ret hr rfl hq
 ·exact ⟨rfl, _, hr, hq⟩
theorem sall_any (w : World) : Calls Tryd.prog 43 #[] w fun e w' => e = .returned (spanV allP) ∧ Below w.heap.size w w' := by
 unfold spanV allP;go_enter Tryd.func43, Tryd.ntmps43;go_wp2;refine span_end (by rfl) (by rfl) ownbq (by simp) ?_;exact ⟨rfl, bel⟩
def lengthP (a b : PSpan) : Int := if b.hi ≤ a.lo then 0 else IntKind.u64.wrap (IntKind.u64.wrap b.hi - IntKind.u64.wrap a.lo)
theorem slength_any (a b : PSpan) (w : World) : Calls Tryd.prog 16 #[spanV a, spanV b] w fun e w' => e = .returned (.int .u64 (lengthP a b)) ∧ Below w.heap.size w w' := by
 obtain ⟨lo, hi⟩ := a;obtain ⟨lo2, hi2⟩ := b;unfold spanV lengthP;dsimp only;by_cases h1 : hi2 ≤ lo
 ·rw [if_pos h1];go_enter Tryd.func16, Tryd.ntmps16;go_wp2;go_ret;go_light;exact ⟨rfl, bel⟩
 ·rw [if_neg h1];go_enter Tryd.func16, Tryd.ntmps16;go_wp2;go_ret;go_light;exact ⟨rfl, bel⟩
def exactP (a b : Int) : Int × Bool := (wrap64 (a + b), decide (a < wrap64 (a + b)) == decide (0 < b))
def lessP (a b : Int) : Int × Bool := (wrap64 (a - b), decide (wrap64 (a - b) < a) == decide (0 < b))
theorem sexact_any (a b : Int) (w : World) : Calls Tryd.prog 53 #[.int .i64 a, .int .i64 b] w fun e w' => e = .returned (.tuple #[.int .i64 (exactP a b).1, .bool (exactP a b).2]) ∧ w' = w := by
 unfold exactP;go_enter Tryd.func53, Tryd.ntmps53;go_wp2;go_ret2;exact ⟨rfl, rfl⟩
theorem sless_any (a b : Int) (w : World) : Calls Tryd.prog 55 #[.int .i64 a, .int .i64 b] w fun e w' => e = .returned (.tuple #[.int .i64 (lessP a b).1, .bool (lessP a b).2]) ∧ w' = w := by
 unfold lessP;go_enter Tryd.func55, Tryd.ntmps55;go_wp2;go_ret2;exact ⟨rfl, rfl⟩
theorem u64_wrap (x : Int) : IntKind.u64.wrap x = x % 18446744073709551616 := by unfold IntKind.wrap IntKind.signed IntKind.bits; simp
theorem sdist_any (a : Int) (w : World) (ha : In64 a) : Calls Tryd.prog 66 #[.int .i64 a] w fun e w' => e = .returned (.int .u64 a.natAbs) ∧ w' = w := by
 unfold In64 at ha;by_cases h1 : a < 0
 ·go_enter Tryd.func66, Tryd.ntmps66;go_wp2;go_ret;go_light;refine ⟨ret_int ?_, rfl⟩;rw [u64_wrap];rw [u64_wrap];omega
 ·go_enter Tryd.func66, Tryd.ntmps66;go_wp2;go_ret;go_light;refine ⟨ret_int ?_, rfl⟩;show a = _;omega
def meetQ (a b : PSpan) : PSpan × Bool := if (meetP a b).hi < (meetP a b).lo then (⟨0, 0⟩, false) else (meetP a b, true)
theorem smeet_any (a b : PSpan) (w : World) : Calls Tryd.prog 39 #[spanV a, spanV b] w fun e w' => e = .returned (.tuple #[spanV (meetQ a b).1, .bool (meetQ a b).2]) ∧ Below w.heap.size w w' := by
 have HA := Lib.hid (fun x y w => snone_any ⟨x, y⟩ w);unfold meetQ;obtain ⟨lo, hi⟩ := a;obtain ⟨lo2, hi2⟩ := b;unfold meetP at *;unfold spanV emptyB at HA ;unfold spanV;dsimp only at *;by_cases h1 : min hi hi2 < max lo lo2
 ·rw [if_pos h1];go_enter Tryd.func39, Tryd.ntmps39;go_wp2_with (first | (go_at_call 29; refine (HA.out _ _ _).mono ?_; rintro e w1 ⟨rfl, hb1⟩; have hc1 := bcell hb1; have hz1 := hb1.size) | fail)
  all_goals first | (exfalso; grind) | (refine flag_end (by rfl) (by rfl) (by rfl) ownbq (by simp) ?_; exact ⟨rfl, bel⟩)
 ·rw [if_neg h1];go_enter Tryd.func39, Tryd.ntmps39;go_wp2_with (first | (go_at_call 29; refine (HA.out _ _ _).mono ?_; rintro e w1 ⟨rfl, hb1⟩; have hc1 := bcell hb1; have hz1 := hb1.size) | fail)
  all_goals first | (exfalso; grind) | (refine flag_end (by rfl) (by rfl) (by rfl) ownbq (by simp) ?_; exact ⟨ret_sb (by grind) (by grind) rfl, bel⟩)
end Go.Proofs.YteebpnbdihcfmaaDoor
