/- From the row's condition to what the walks ask: the listed table lies in block 0. -/
import Derived.Test.YtgpdggjpbmgegaaDoorRows
import Derived.Test.YtgpdggjpbmgegaaDoorHeap
import Derived.ProofKit
import Derived.LaidMore
import Derived.OpenShut
import Derived.ChangeOld
import Derived.Below
import Derived.Carry
import Derived.Stop.Joined
namespace Go.Proofs.YtgpdggjpbmgegaaDoor
open Go.ChangeShapes Go.WideShapes Go.ChangeAt Go.RowKit
set_option linter.unusedVariables false
set_option linter.unusedSimpArgs false

theorem own : ownKnob Tryd.prog.godebug = none := by kernel_rfl
theorem laidOut : laidOutB Tryd.prog = true := by kernel_rfl
def laidL : List (String × DataW Unit) := [("soffit/code.rows", Rows.laid_soffit_code_rows)]

/-- The door's own heap meets the condition: three closed facts. -/
theorem door_met (os : Os) (args : Array Value) : laidMetH Tryd.prog laidL ((World.doorLaid Tryd.prog 34 os).forCall (fun _ _ => 0) ⟨#[], args, []⟩).memory :=
  laidMetH_of_parts3 (fuel := 8) (laidMet_of_run' 8 (by kernel_rfl) (by kernel_rfl)) (by kernel_rfl) (by kernel_rfl)

theorem lt_of_cell? {w : World} {a : Addr} {v : Value} (h : w.cell? a = some v) : a.block < w.heap.size := by
  unfold World.cell? at h
  split at h
  · rename_i hb; exact (Array.getElem?_eq_some_iff.1 hb).1
  all_goals cases h

set_option maxRecDepth 100000 in
/-- one row of the table, read -/
theorem row_read {H : Type} {enc : TypeId × Value → H} {W : World} {base fuel : Nat} {sp : Nat → Bool} {hd : Bool} {cs : List Value} {x : DataW H × List MemPlace} (h : DataW.trod enc Tryd.prog W base sp hd fuel 109 cs = some x)
    {s : List UInt8} {wt n : Int} {a b c wr : Bool} (hx : x.1 = .agg [.lit (.string s), .lit (.int .i64 wt), .lit (.bool a), .lit (.bool b), .lit (.bool c), .lit (.int .i64 n), .lit (.bool wr)]) :
    cs = [.string ⟨s.toArray⟩, .int .i64 wt, .bool a, .bool b, .bool c, .int .i64 n, .bool wr] := by
  obtain ⟨xs, m, rfl, rfl, hl, hlen, hf⟩ := DataW.trod_struct Tryd.underlying109 h
  have c9 : Tryd.prog.cellsOf 9 = 1 := by kernel_rfl
  have c2 : Tryd.prog.cellsOf 2 = 1 := by kernel_rfl
  have c3 : Tryd.prog.cellsOf 3 = 1 := by kernel_rfl
  have c4 : Tryd.prog.cellsOf 4 = 1 := by kernel_rfl
  have c109 : Tryd.prog.cellsOf 109 = 7 := by kernel_rfl
  rw [c109] at hl
  match cs, hl with
  | [q0, q1, q2, q3, q4, q5, q6], _ =>
    match xs, hlen with
    | [y0, y1, y2, y3, y4, y5, y6], _ =>
      have k0 : DataW.trod enc Tryd.prog W base sp hd m 9 [q0] = some y0 := by have := hf 0 _ rfl; simpa [c9] using this
      have k1 : DataW.trod enc Tryd.prog W base sp hd m 2 [q1] = some y1 := by have := hf 1 _ rfl; simpa [c2] using this
      have k2 : DataW.trod enc Tryd.prog W base sp hd m 4 [q2] = some y2 := by have := hf 2 _ rfl; simpa [c4] using this
      have k3 : DataW.trod enc Tryd.prog W base sp hd m 4 [q3] = some y3 := by have := hf 3 _ rfl; simpa [c4] using this
      have k4 : DataW.trod enc Tryd.prog W base sp hd m 4 [q4] = some y4 := by have := hf 4 _ rfl; simpa [c4] using this
      have k5 : DataW.trod enc Tryd.prog W base sp hd m 3 [q5] = some y5 := by have := hf 5 _ rfl; simpa [c3] using this
      have k6 : DataW.trod enc Tryd.prog W base sp hd m 4 [q6] = some y6 := by have := hf 6 _ rfl; simpa [c4] using this
      obtain ⟨z0, e0, r0, _⟩ := DataW.trod_string Tryd.underlying9 k0
      obtain ⟨z1, e1, r1, _⟩ := DataW.trod_int Tryd.underlying2 k1
      obtain ⟨z2, e2, r2⟩ := DataW.trod_bool Tryd.underlying4 k2
      obtain ⟨z3, e3, r3⟩ := DataW.trod_bool Tryd.underlying4 k3
      obtain ⟨z4, e4, r4⟩ := DataW.trod_bool Tryd.underlying4 k4
      obtain ⟨z5, e5, r5, _⟩ := DataW.trod_int Tryd.underlying3 k5
      obtain ⟨z6, e6, r6⟩ := DataW.trod_bool Tryd.underlying4 k6
      subst r0 r1 r2 r3 r4 r5 r6
      simp only [List.cons.injEq, and_true] at e0 e1 e2 e3 e4 e5 e6
      subst e0 e1 e2 e3 e4 e5 e6
      simp only [List.map_cons, List.map_nil, DataW.agg.injEq, List.cons.injEq, DataW.lit.injEq, Lit.string.injEq, Lit.int.injEq, Lit.bool.injEq, true_and, and_true] at hx
      obtain ⟨rfl, rfl, rfl, rfl, rfl, rfl, rfl⟩ := hx
      rfl

set_option maxRecDepth 100000 in
/-- what the condition gives the walks -/
theorem rows_of_laid {W : World} (h : laidMetH Tryd.prog laidL W) : RowsAt W := by
  rw [MakeChecks.laidMetH_plain _ _ _ (by kernel_rfl)] at h
  obtain ⟨ps, ⟨g0, t0, cs0, f0, p0, q0, hg0, ht0, hv0, hd0, _, _⟩, _, _⟩ := h
  obtain rfl : (0 : Nat) = g0 := Option.some.inj ((show Tryd.prog.globalNamed "soffit/code.rows" = some 0 by kernel_rfl).symm.trans hg0)
  obtain rfl : 110 = t0 := Option.some.inj ((show (Tryd.prog.globals[0]?).map (·.type) = some 110 by kernel_rfl).symm.trans ht0)
  obtain ⟨xs, m1, rfl, hx1, hlen, hn, hel⟩ := DataW.trod_array Tryd.underlying110 hd0
  have c109 : Tryd.prog.cellsOf 109 = 7 := by kernel_rfl
  rw [c109] at hel
  simp only [Prod.mk.injEq] at hx1
  have hx := hx1.1
  unfold Rows.laid_soffit_code_rows at hx
  simp only [DataW.agg.injEq] at hx
  have hcell := fun i => World.var?_cell hg0 hv0 i
  have key : ∀ k, k < 20 → ((cs0.toList.drop (k * 7)).take 7) = [.string ⟨(rowAt k).word.toArray⟩, .int .i64 (rowAt k).weight, .bool (rowAt k).a, .bool (rowAt k).b, .bool (rowAt k).c, .int .i64 (rowAt k).n, .bool (rowAt k).writes] := by
    intro k hk
    have hk2 := hel k hk
    rw [List.getElem?_eq_getElem (by omega)] at hk2
    refine row_read hk2 ?_
    have h3 : (xs.map (·.1))[k]? = some xs[k].1 := by simp [List.getElem?_eq_getElem (show k < xs.length by omega)]
    rw [← hx] at h3
    have h4 : (rowsL.map fun R => (DataW.agg [.lit (.string R.word), .lit (.int .i64 R.weight), .lit (.bool R.a), .lit (.bool R.b), .lit (.bool R.c), .lit (.int .i64 R.n), .lit (.bool R.writes)] : DataW Unit))[k]? = some xs[k].1 := h3
    rw [List.getElem?_map] at h4
    have h5 : rowsL[k]? = some (rowAt k) := by
      unfold rowAt; rw [List.getD_eq_getElem?_getD, List.getElem?_eq_getElem (by exact hk)]; rfl
    rw [h5] at h4
    simpa using h4.symm
  have hc : ∀ k j v, k < 20 → j < 7 → ([.string ⟨(rowAt k).word.toArray⟩, .int .i64 (rowAt k).weight, .bool (rowAt k).a, .bool (rowAt k).b, .bool (rowAt k).c, .int .i64 (rowAt k).n, .bool (rowAt k).writes] : List Value)[j]? = some v → W.cell? ⟨0, k * 7 + j, none⟩ = some v := by
    intro k j v hk hj hv
    rw [hcell, ← hv, ← key k hk, List.getElem?_take_of_lt hj, List.getElem?_drop]
    simp
  refine ⟨?_, fun k hk => ⟨hc k 0 _ hk (by omega) rfl, hc k 1 _ hk (by omega) rfl, hc k 2 _ hk (by omega) rfl, hc k 3 _ hk (by omega) rfl, hc k 4 _ hk (by omega) rfl, hc k 5 _ hk (by omega) rfl, hc k 6 _ hk (by omega) rfl⟩⟩
  have := lt_of_cell? (hc 0 0 _ (by omega) (by omega) rfl)
  simpa using this
end Go.Proofs.YtgpdggjpbmgegaaDoor
