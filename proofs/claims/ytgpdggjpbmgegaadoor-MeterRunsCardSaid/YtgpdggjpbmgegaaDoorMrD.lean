/- The reference machine (R20) in memory: its cells; the end of a run. -/
import Derived.Test.YtgpdggjpbmgegaaDoorMrC
import Derived.Test.YtgpdggjpbmgegaaDoorFresh
namespace Go.Proofs.YtgpdggjpbmgegaaDoor
open Go.RowKit
set_option linter.unusedVariables false
set_option linter.unusedSimpArgs false


/-- the machine's cells -/
structure MC where
  ta : Option Addr
  tl : Nat
  tc : Nat
  fa : Option Addr
  fl : Nat
  fc : Nat
  fr : Value
  most : Int
  use : Int
  e : Int
  v : Int
  st : Int
  mf : Int
  mw : Int
  en : Bool
def MC.cells (x : MC) : List Value := [.slice x.ta x.tl x.tc, .slice x.fa x.fl x.fc, x.fr, .int .i64 x.most, .int .i64 x.use, .int .i64 x.e, .int .i64 x.v, .int .i64 x.st, .int .i64 x.mf, .int .i64 x.mw, .bool x.en]
theorem own11 {w : World} {k : Nat} {x : MC} (h : Own w k x.cells) : k < w.heap.size ∧ w.cell? ⟨k, 0, none⟩ = some (.slice x.ta x.tl x.tc) ∧ w.cell? ⟨k, 1, none⟩ = some (.slice x.fa x.fl x.fc) ∧ w.cell? ⟨k, 2, none⟩ = some x.fr ∧ w.cell? ⟨k, 3, none⟩ = some (.int .i64 x.most) ∧ w.cell? ⟨k, 4, none⟩ = some (.int .i64 x.use) ∧
    w.cell? ⟨k, 5, none⟩ = some (.int .i64 x.e) ∧ w.cell? ⟨k, 6, none⟩ = some (.int .i64 x.v) ∧ w.cell? ⟨k, 7, none⟩ = some (.int .i64 x.st) ∧ w.cell? ⟨k, 8, none⟩ = some (.int .i64 x.mf) ∧ w.cell? ⟨k, 9, none⟩ = some (.int .i64 x.mw) ∧ w.cell? ⟨k, 10, none⟩ = some (.bool x.en) :=
  ⟨h.1, h.2.1 0 _ rfl, h.2.1 1 _ rfl, h.2.1 2 _ rfl, h.2.1 3 _ rfl, h.2.1 4 _ rfl, h.2.1 5 _ rfl, h.2.1 6 _ rfl, h.2.1 7 _ rfl, h.2.1 8 _ rfl, h.2.1 9 _ rfl, h.2.1 10 _ rfl⟩

set_option maxRecDepth 100000 in
theorem mends_any (xb : Nat) (x : MC) (e v : Int) (w : World) (h : Own w xb x.cells) :
    Calls Tryd.prog 54 #[.pointer (some ⟨xb, 0, none⟩), .int .i64 e, .int .i64 v] w fun en w' => en = .returned (.tuple #[]) ∧ Chg (· = xb) w w' ∧ Own w' xb { x with e := e, v := v, en := true }.cells := by
  have o := own11 h
  have fz := h.2.2
  have f5 := fz 5
  have f6 := fz 6
  have f10 := fz 10
  clear fz
  have h' := ((h.set 5 (.int .i64 e) (by simp [MC.cells])).set 6 (.int .i64 v) (by simp [MC.cells])).set 10 (.bool true) (by simp [MC.cells])
  have H := Lib.hid h'; clear h'
  go_enter Tryd.func54, Tryd.ntmps54
  go_wp2
  go_end0
  go_light
  exact ⟨rfl, (by repeat (first | with_reducible exact Chg.refl _ _ | with_reducible assumption | with_reducible refine Chg.drew ?_ | with_reducible refine Chg.drewN ?_ _ | with_reducible refine Chg.alloc ?_ _ | with_reducible refine Chg.setCell ?_ (by first | with_reducible exact .inl rfl | exact .inl (.inl rfl) | exact .inl (.inr rfl) | exact .inr (by simp)) _ | (with_reducible refine Chg.trans ?_ (Chg.of (by first | with_reducible assumption | exact hF _))))), H.out⟩
end Go.Proofs.YtgpdggjpbmgegaaDoor
