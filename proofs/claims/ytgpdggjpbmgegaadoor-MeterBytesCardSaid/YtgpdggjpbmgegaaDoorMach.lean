/- The machine of the code, as a plain function on lists: what a step makes of a state. No program in sight. -/
import Derived.Test.YtgpdggjpbmgegaaDoorSpec
namespace Go.Proofs.YtgpdggjpbmgegaaDoor
open Go.RowKit
set_option linter.unusedVariables false
set_option linter.unusedSimpArgs false


/-- what the operations of two registers make -/
def numV (op a b : Int) : Int :=
  if op = 3 then wrap64 (a + b) else if op = 4 then wrap64 (a - b) else if op = 5 then wrap64 (a * b) else if op = 6 then wrap64 (a.tdiv b) else
  if op = 7 then a.tmod b else if op = 8 then (if a < b then 1 else 0) else (if a = b then 1 else 0)
def truthZ (b : Bool) : Int := if b then 1 else 0

/-- a call that has not ended -/
structure PFr where
  fn : Nat
  at_ : Int
  into : Int
  regs : List Int
  words : List Int
/-- a run: the frames, the innermost apart; the words in use; the most frames and words -/
structure PSt where
  rest : List PFr
  top : PFr
  use : Int
  mf : Int
  mw : Int
inductive PRes where
  | next (s : PSt)
  | done (v use mf mw : Int)
  | trap (e : Int)

instance : Inhabited PFr := ⟨⟨0, 0, 0, [], []⟩⟩
def PFr.rg (f : PFr) (i : Int) : Int := f.regs.getD i.toNat 0
def PFr.put (f : PFr) (i v : Int) : PFr := { f with regs := f.regs.set i.toNat v }
def PFr.goto (f : PFr) (n : Int) : PFr := { f with at_ := n }
def fnAt (m : PMod) (k : Nat) : PFunc := m.funcs.getD k default
def zeros (n : Int) : List Int := List.replicate n.toNat 0
/-- a new frame: the arguments stand in the first registers -/
def frameOf (m : PMod) (k : Nat) (into : Int) (xs : List Int) : PFr :=
  { fn := k, at_ := 0, into := into, regs := xs ++ (zeros (fnAt m k).regs).drop xs.length, words := zeros (fnAt m k).words }
def sizeOfFn (m : PMod) (k : Nat) : Int := (fnAt m k).regs + (fnAt m k).words
def PSt.depth (s : PSt) : Int := (s.rest.length : Int) + 1
def enterP (m : PMod) (rest : List PFr) (use mf mw : Int) (k : Nat) (into : Int) (xs : List Int) : PSt :=
  { rest := rest, top := frameOf m k into xs, use := use + sizeOfFn m k, mf := max mf ((rest.length : Int) + 1), mw := max mw (use + sizeOfFn m k) }
def argsOf (m : PMod) (f : PFr) (x : PIns) : List Int := (f.regs.drop x.b.toNat).take (fnAt m x.n.toNat).params.length
/-- what an instruction makes of a state in which its number has been passed; lim: how many frames may be, 0: any number -/
def doP (m : PMod) (lim : Int) (s : PSt) (x : PIns) : PRes :=
  let t := s.top
  let keep (f : PFr) : PRes := .next { s with top := f }
  if x.op = 0 then
    (match s.rest.getLast? with
     | none => .done (t.rg x.a) (s.use - sizeOfFn m t.fn) s.mf s.mw
     | some c => .next { rest := s.rest.dropLast, top := c.put t.into (t.rg x.a), use := s.use - sizeOfFn m t.fn, mf := s.mf, mw := s.mw })
  else if x.op = 1 then keep (t.put x.a x.n)
  else if x.op = 2 then keep (t.put x.a (t.rg x.b))
  else if x.op = 3 ∨ x.op = 4 ∨ x.op = 5 ∨ x.op = 8 ∨ x.op = 9 then keep (t.put x.a (numV x.op (t.rg x.b) (t.rg x.c)))
  else if x.op = 6 ∨ x.op = 7 then (if t.rg x.c = 0 then .trap 50 else keep (t.put x.a (numV x.op (t.rg x.b) (t.rg x.c))))
  else if x.op = 10 then keep (t.put x.a (truthZ (t.rg x.b == 0)))
  else if x.op = 11 then (if 0 ≤ t.rg x.b + x.n ∧ t.rg x.b + x.n < t.words.length then keep (t.put x.a (t.words.getD (t.rg x.b + x.n).toNat 0)) else .trap 51)
  else if x.op = 12 then (if 0 ≤ t.rg x.b + x.n ∧ t.rg x.b + x.n < t.words.length then keep { t with words := t.words.set (t.rg x.b + x.n).toNat (t.rg x.a) } else .trap 51)
  else if x.op = 13 then (if 0 ≤ t.rg x.a ∧ t.rg x.a < x.n then keep t else .trap 51)
  else if x.op = 14 then keep (t.goto x.n)
  else if x.op = 15 then keep (if t.rg x.a ≠ 0 then t.goto x.n else t)
  else if x.op = 16 then keep (if t.rg x.a = 0 then t.goto x.n else t)
  else if x.op = 17 then keep (if t.rg x.b ≤ t.rg x.a then t.goto x.n else t)
  else if x.op = 18 then keep ((t.put x.a (wrap64 (t.rg x.a + 1))).goto x.n)
  else if fitsB (fnAt m x.n.toNat).params (argsOf m t x) = false then .trap 52
  else if 0 < lim ∧ lim ≤ s.depth then .trap 91
  else .next (enterP m (s.rest ++ [t]) s.use s.mf s.mw x.n.toNat x.a (argsOf m t x))
/-- the instruction that follows -/
def insAt (m : PMod) (f : PFr) : PIns := (fnAt m f.fn).code.getD f.at_.toNat default
def PSt.pass (s : PSt) : PSt := { s with top := s.top.goto (s.top.at_ + 1) }

end Go.Proofs.YtgpdggjpbmgegaaDoor
