/- Plain functions: modules of code as data, and what the layers 9 say of them. No program in sight. -/
import Derived.WalkKit
namespace Go.Proofs.YtgpdggjpbmgegaaDoor
open Go.RowKit
set_option linter.unusedVariables false
set_option linter.unusedSimpArgs false

structure PSpan where
  lo : Int
  hi : Int
structure PIns where
  op : Int
  a : Int
  b : Int
  c : Int
  n : Int
structure PFunc where
  name : ByteArray
  params : List PSpan
  regs : Int
  words : Int
  code : List PIns
structure PMod where
  thr : List Int
  funcs : List PFunc

instance : Inhabited PSpan := ⟨⟨0, 0⟩⟩
instance : Inhabited PIns := ⟨⟨0, 0, 0, 0, 0⟩⟩
instance : Inhabited PFunc := ⟨⟨ByteArray.empty, [], 0, 0, []⟩⟩

def letterB (c : UInt8) : Bool := decide (97 ≤ (c.toNat : Int)) && decide ((c.toNat : Int) ≤ 122)
def digitB (c : UInt8) : Bool := decide (48 ≤ (c.toNat : Int)) && decide ((c.toNat : Int) ≤ 57)
/-- byte i of a name may stand there -/
def nameAt (s : ByteArray) (i : Nat) : Bool := letterB (s.data.toList.getD i 0) || (decide (0 < i) && digitB (s.data.toList.getD i 0))
def nameTo (s : ByteArray) (k : Nat) : Prop := ∀ i, i < k → nameAt s i = true
def isNameB (s : ByteArray) : Bool := decide (1 ≤ s.size) && decide (s.size ≤ 16) && (List.range s.size).all (nameAt s)
theorem getD_byte (s : ByteArray) (i : Nat) (h : i < s.size) : s.data.toList.getD i 0 = s[i] := by
  have : i < s.data.toList.length := by simpa using h
  simp [List.getD_eq_getElem?_getD, List.getElem?_eq_getElem this]; rfl


/-- the table of the operations: weight, which fields there are, the kind of N (0 none, 1 number, 2 target, 3 checked, 4 function), and whether A is written -/
structure PRow where
  word : List UInt8
  weight : Int
  a : Bool
  b : Bool
  c : Bool
  n : Int
  writes : Bool
instance : Inhabited PRow := ⟨⟨[], 0, false, false, false, 0, false⟩⟩
def rowsL : List PRow := [⟨[114, 101, 116], 1, true, false, false, 0, false⟩, ⟨[115, 101, 116], 1, true, false, false, 1, true⟩, ⟨[109, 111, 118, 101], 1, true, true, false, 0, true⟩,
  ⟨[97, 100, 100], 1, true, true, true, 0, true⟩, ⟨[115, 117, 98], 1, true, true, true, 0, true⟩, ⟨[109, 117, 108], 3, true, true, true, 0, true⟩, ⟨[100, 105, 118], 8, true, true, true, 0, true⟩,
  ⟨[114, 101, 109], 8, true, true, true, 0, true⟩, ⟨[108, 101, 115, 115], 1, true, true, true, 0, true⟩, ⟨[101, 113, 117, 97, 108], 1, true, true, true, 0, true⟩, ⟨[110, 111, 116], 1, true, true, false, 0, true⟩,
  ⟨[108, 111, 97, 100], 2, true, true, false, 1, true⟩, ⟨[115, 116, 111, 114, 101], 2, true, true, false, 1, false⟩, ⟨[99, 104, 101, 99, 107], 1, true, false, false, 3, false⟩, ⟨[106, 117, 109, 112], 1, false, false, false, 2, false⟩,
  ⟨[105, 102], 1, true, false, false, 2, false⟩, ⟨[117, 110, 108, 101, 115, 115], 1, true, false, false, 2, false⟩, ⟨[99, 111, 117, 110, 116], 1, true, true, false, 2, false⟩, ⟨[115, 116, 101, 112], 1, true, false, false, 2, true⟩,
  ⟨[99, 97, 108, 108], 4, true, true, false, 4, true⟩]
def rowAt (k : Nat) : PRow := rowsL.getD k default
def knownB (op : Int) : Bool := decide (0 ≤ op) && decide (op < 20)
def weightZ (op : Int) : Int := if knownB op then (rowAt op.toNat).weight else 0

/-- the first function of a name; -1: none -/
def findZ (fs : List PFunc) (s : ByteArray) : Int := match fs.findIdx? (fun f => f.name.toList == s.toList) with | some i => i | none => -1
theorem findZ_some (fs : List PFunc) (s : ByteArray) (k : Nat) (hk : k < fs.length) (h : (fs.getD k default).name.toList == s.toList) (hb : ∀ i, i < k → ((fs.getD i default).name.toList == s.toList) = false) : findZ fs s = k := by
  unfold findZ
  have : fs.findIdx? (fun f => f.name.toList == s.toList) = some k := by
    rw [List.findIdx?_eq_some_iff_getElem]
    refine ⟨hk, by simpa [List.getD_eq_getElem?_getD, List.getElem?_eq_getElem hk] using h, fun j hj => ?_⟩
    have := hb j hj
    simp only [List.getD_eq_getElem?_getD, List.getElem?_eq_getElem (show j < fs.length by omega), Option.getD_some] at this
    simp [this]
  rw [this]
theorem findZ_none (fs : List PFunc) (s : ByteArray) (hb : ∀ i, i < fs.length → ((fs.getD i default).name.toList == s.toList) = false) : findZ fs s = -1 := by
  unfold findZ
  have : fs.findIdx? (fun f => f.name.toList == s.toList) = none := by
    rw [List.findIdx?_eq_none_iff]
    intro x hx
    obtain ⟨i, hi, rfl⟩ := List.getElem_of_mem hx
    have := hb i hi
    simpa only [List.getD_eq_getElem?_getD, List.getElem?_eq_getElem hi, Option.getD_some] using this
  rw [this]
theorem findZ_bd (fs : List PFunc) (s : ByteArray) : -1 ≤ findZ fs s ∧ findZ fs s < fs.length := by
  unfold findZ; split
  · rename_i i h; rw [List.findIdx?_eq_some_iff_getElem] at h; obtain ⟨h, _⟩ := h; omega
  · omega

/-- the first place of a list where p holds -/
theorem first_some {α : Type} [Inhabited α] (l : List α) (p : α → Bool) (k : Nat) (hk : k < l.length) (h : p (l.getD k default) = true) (hb : ∀ i, i < k → p (l.getD i default) = false) : l.findIdx? p = some k := by
  rw [List.findIdx?_eq_some_iff_getElem]
  refine ⟨hk, by simpa [List.getD_eq_getElem?_getD, List.getElem?_eq_getElem hk] using h, fun j hj => ?_⟩
  have := hb j hj
  simp only [List.getD_eq_getElem?_getD, List.getElem?_eq_getElem (show j < l.length by omega), Option.getD_some] at this
  simp [this]
theorem first_none {α : Type} [Inhabited α] (l : List α) (p : α → Bool) (hb : ∀ i, i < l.length → p (l.getD i default) = false) : l.findIdx? p = none := by
  rw [List.findIdx?_eq_none_iff]
  intro x hx
  obtain ⟨i, hi, rfl⟩ := List.getElem_of_mem hx
  have := hb i hi
  simpa only [List.getD_eq_getElem?_getD, List.getElem?_eq_getElem hi, Option.getD_some] using this
theorem getD_eq {α : Type} [Inhabited α] (l : List α) (k : Nat) (h : k < l.length) : l.getD k default = l[k] := by
  simp [List.getD_eq_getElem?_getD, List.getElem?_eq_getElem h]

def emptyB (p : PSpan) : Bool := decide (p.hi < p.lo)
def wholeTail (regs words : Int) (np nc : Nat) : Int × Int :=
  if regs < 1 ∨ 64 < regs ∨ regs < np then (95, 0) else if words < 0 ∨ 4096 < words then (96, 0) else if nc = 0 ∨ 1024 < nc then (97, 0) else (0, 0)
/-- what is wrong with function number f, as a whole; k: the first one of its name -/
def wholeQ (x : PFunc) (k f : Int) : Int × Int :=
  if isNameB x.name = false then (8, 0) else if k < f then (9, 0) else if 8 < x.params.length then (3, 8) else
  match x.params.findIdx? emptyB with
  | some i => ((40 : Int), (i : Int))
  | none => wholeTail x.regs x.words x.params.length x.code.length
def wholeP (m : PMod) (f : Nat) : Int × Int := wholeQ (m.funcs.getD f default) (findZ m.funcs (m.funcs.getD f default).name) f
theorem wholeQ_many (x : PFunc) (k f : Int) (h : isNameB x.name = true) (h2 : ¬ k < f) (h3 : 8 < x.params.length) : wholeQ x k f = (3, 8) := by
  unfold wholeQ; rw [if_neg (by simp [h]), if_neg h2, if_pos h3]
theorem wholeQ_empty (x : PFunc) (k f : Int) (i : Nat) (h : isNameB x.name = true) (h2 : ¬ k < f) (h3 : ¬ 8 < x.params.length) (h4 : x.params.findIdx? emptyB = some i) : wholeQ x k f = ((40 : Int), (i : Int)) := by
  unfold wholeQ; rw [if_neg (by simp [h]), if_neg h2, if_neg h3, h4]
theorem wholeQ_tail (x : PFunc) (k f : Int) (h : isNameB x.name = true) (h2 : ¬ k < f) (h3 : ¬ 8 < x.params.length) (h4 : x.params.findIdx? emptyB = none) : wholeQ x k f = wholeTail x.regs x.words x.params.length x.code.length := by
  unfold wholeQ; rw [if_neg (by simp [h]), if_neg h2, if_neg h3, h4]

/-- what is wrong with a field -/
def fieldP (has : Bool) (r regs : Int) : Int := if has = false ∧ r ≠ 0 then 62 else if has = true ∧ (r < 0 ∨ regs ≤ r) then 61 else 0
def kindP (nf np : Int → Int) (n regs nc b N : Int) : Int :=
  if n = 0 then (if N ≠ 0 then 62 else 0) else if n = 2 then (if N < 0 ∨ nc ≤ N then 63 else 0) else if n = 3 then (if N < 1 ∨ 4096 < N then 2 else 0) else
  if n = 4 then (if N < 0 ∨ nf 0 ≤ N ∨ regs < b + np N then 65 else 0) else 0
theorem kindP_call (nf np : Int → Int) (regs nc b N : Int) (h0 : ¬ N < 0) (h1 : ¬ nf 0 ≤ N) : kindP nf np 4 regs nc b N = if regs < b + np N then 65 else 0 := by
  simp only [kindP, h0, h1, false_or]; simp
def paramsOf (m : PMod) (N : Int) : Int := (m.funcs.getD N.toNat default).params.length
/-- what is wrong with an instruction of a function of so many registers and instructions -/
def rowP (m : PMod) (regs nc : Int) (R : PRow) (x : PIns) : Int :=
  if fieldP R.a x.a regs ≠ 0 then fieldP R.a x.a regs else if fieldP R.b x.b regs ≠ 0 then fieldP R.b x.b regs else if fieldP R.c x.c regs ≠ 0 then fieldP R.c x.c regs else kindP (fun _ => m.funcs.length) (paramsOf m) R.n regs nc x.b x.n
def instrP (m : PMod) (regs nc : Int) (x : PIns) : Int := if knownB x.op = false then 60 else rowP m regs nc (rowAt x.op.toNat) x
def fieldAt (R : PRow) (x : PIns) (regs : Int) (k : Nat) : Int := if k = 0 then fieldP R.a x.a regs else if k = 1 then fieldP R.b x.b regs else fieldP R.c x.c regs
theorem rowP_field (m : PMod) (regs nc : Int) (R : PRow) (x : PIns) (k : Nat) (hk : k < 3) (h : ∀ i, i < k → fieldAt R x regs i = 0) (h2 : fieldAt R x regs k ≠ 0) : rowP m regs nc R x = fieldAt R x regs k := by
  have h0 := h 0; have h1 := h 1
  unfold fieldAt at *; unfold rowP
  rcases (show k = 0 ∨ k = 1 ∨ k = 2 by omega) with rfl | rfl | rfl <;> simp_all
theorem rowP_kind (m : PMod) (regs nc : Int) (R : PRow) (x : PIns) (h : ∀ i, i < 3 → fieldAt R x regs i = 0) : rowP m regs nc R x = kindP (fun _ => m.funcs.length) (paramsOf m) R.n regs nc x.b x.n := by
  have h0 := h 0; have h1 := h 1; have h2 := h 2
  unfold fieldAt at *; unfold rowP
  simp_all
theorem rowN (k : Nat) : 0 ≤ (rowAt k).n ∧ (rowAt k).n ≤ 4 := by
  by_cases h : k < 20
  · revert h; revert k; decide
  · have : rowAt k = default := by unfold rowAt; rw [List.getD_eq_getElem?_getD, List.getElem?_eq_none (by simp [rowsL]; omega)]; rfl
    rw [this]; decide

/-- the first number below n where p holds -/
def firstI (n : Nat) (p : Nat → Bool) : Option Nat := (List.range n).find? p
theorem firstI_some (n : Nat) (p : Nat → Bool) (k : Nat) (hk : k < n) (h : p k = true) (hb : ∀ i, i < k → p i = false) : firstI n p = some k := by
  unfold firstI
  rw [List.find?_range_eq_some]
  exact ⟨h, List.mem_range.2 hk, fun j hj => by simp [hb j hj]⟩
theorem firstI_none (n : Nat) (p : Nat → Bool) (hb : ∀ i, i < n → p i = false) : firstI n p = none := by
  unfold firstI; rw [List.find?_range_eq_none]; intro i hi; simp [hb i hi]
theorem firstI_spec {n : Nat} {p : Nat → Bool} {k : Nat} (h : firstI n p = some k) : k < n ∧ p k = true ∧ ∀ i, i < k → p i = false := by
  unfold firstI at h
  rw [List.find?_range_eq_some] at h
  exact ⟨List.mem_range.1 h.2.1, h.1, fun j hj => by simpa using h.2.2 j hj⟩
theorem firstI_no {n : Nat} {p : Nat → Bool} (h : firstI n p = none) : ∀ i, i < n → p i = false := by
  unfold firstI at h; rw [List.find?_range_eq_none] at h; intro i hi; simpa using h i hi

def thrBad (thr : List Int) (i : Nat) : Bool := decide (1 ≤ i) && decide (thr.getD i 0 ≤ thr.getD (i - 1) 0)
/-- what is wrong with the code of a function -/
def bodyI (m : PMod) (x : PFunc) (i : Nat) : Int := instrP m x.regs x.code.length (x.code.getD i default)
def lastOp (x : PFunc) : Int := (x.code.getD (x.code.length - 1) default).op
def bodyP (m : PMod) (x : PFunc) : Int × Int :=
  match firstI x.code.length (fun i => decide (bodyI m x i ≠ 0)) with
  | some i => (bodyI m x i, (i : Int))
  | none => if lastOp x = 0 ∨ lastOp x = 14 ∨ lastOp x = 18 then (0, 0) else (64, (x.code.length : Int) - 1)
structure PFault where
  e : Int
  f : Int
  at_ : Int
def mayFuncs (m : PMod) : PFault :=
  match firstI m.funcs.length (fun f => decide ((bodyP m (m.funcs.getD f default)).1 ≠ 0)) with
  | some f => ⟨(bodyP m (m.funcs.getD f default)).1, f, (bodyP m (m.funcs.getD f default)).2⟩
  | none => ⟨0, 0, 0⟩
def mayWholes (m : PMod) : PFault :=
  match firstI m.funcs.length (fun f => decide ((wholeP m f).1 ≠ 0)) with
  | some f => ⟨(wholeP m f).1, f, (wholeP m f).2⟩
  | none => mayFuncs m
/-- what is wrong first with a module -/
def mayP (m : PMod) : PFault :=
  if 16 < m.thr.length then ⟨3, 0, 16⟩ else
  match firstI m.thr.length (thrBad m.thr) with
  | some i => ⟨66, 0, i⟩
  | none => if 32 < m.funcs.length then ⟨3, 32, 0⟩ else mayWholes m

theorem wholeTail_ok {regs words : Int} {np nc : Nat} (h : (wholeTail regs words np nc).1 = 0) : 1 ≤ regs ∧ regs ≤ 64 ∧ np ≤ regs ∧ 0 ≤ words ∧ words ≤ 4096 ∧ 1 ≤ nc ∧ nc ≤ 1024 := by
  unfold wholeTail at h; grind
theorem wholeP_ok {m : PMod} {f : Nat} (h : (wholeP m f).1 = 0) :
    isNameB (m.funcs.getD f default).name = true ∧ (f : Int) ≤ findZ m.funcs (m.funcs.getD f default).name ∧ (m.funcs.getD f default).params.length ≤ 8 ∧ 1 ≤ (m.funcs.getD f default).regs ∧ (m.funcs.getD f default).regs ≤ 64 ∧ (m.funcs.getD f default).params.length ≤ (m.funcs.getD f default).regs ∧
    0 ≤ (m.funcs.getD f default).words ∧ (m.funcs.getD f default).words ≤ 4096 ∧ 1 ≤ (m.funcs.getD f default).code.length ∧ (m.funcs.getD f default).code.length ≤ 1024 ∧ (m.funcs.getD f default).params.findIdx? emptyB = none := by
  unfold wholeP at h
  generalize m.funcs.getD f default = x at *
  unfold wholeQ at h
  split at h
  · simp at h
  · split at h
    · simp at h
    · split at h
      · simp at h
      · split at h
        · simp at h
        · have := wholeTail_ok h
          rename_i h1 h2 h3 _ h4
          exact ⟨by simpa using h1, by omega, by omega, this.1, this.2.1, this.2.2.1, this.2.2.2.1, this.2.2.2.2.1, this.2.2.2.2.2.1, this.2.2.2.2.2.2, h4⟩

/-- may arguments be handed to parameters? -/
def inB (p : PSpan) (x : Int) : Bool := !decide (x < p.lo) && !decide (p.hi < x)
def fitAt (ps : List PSpan) (xs : List Int) (i : Nat) : Bool := inB (ps.getD i default) (xs.getD i 0)
def fitsB (ps : List PSpan) (xs : List Int) : Bool := decide (xs.length = ps.length) && (List.range ps.length).all (fitAt ps xs)
theorem fitsB_len (ps : List PSpan) (xs : List Int) (h : xs.length ≠ ps.length) : fitsB ps xs = false := by simp [fitsB, h]
theorem fitsB_not (ps : List PSpan) (xs : List Int) (k : Nat) (hk : k < ps.length) (h : fitAt ps xs k = false) : fitsB ps xs = false := by
  have : (List.range ps.length).all (fitAt ps xs) = false := by
    rw [List.all_eq_false]; exact ⟨k, List.mem_range.2 hk, by rw [h]; decide⟩
  simp [fitsB, this]
theorem fitsB_yes (ps : List PSpan) (xs : List Int) (h : xs.length = ps.length) (h2 : ∀ i, i < ps.length → fitAt ps xs i = true) : fitsB ps xs = true := by
  have : (List.range ps.length).all (fitAt ps xs) = true := by
    rw [List.all_eq_true]; intro i hi; exact h2 i (List.mem_range.1 hi)
  simp [fitsB, this, h]

end Go.Proofs.YtgpdggjpbmgegaaDoor
