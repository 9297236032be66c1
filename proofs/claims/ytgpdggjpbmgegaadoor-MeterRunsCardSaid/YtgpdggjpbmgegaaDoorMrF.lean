/- The reference machine (R20): check, load and store. -/
import Derived.Test.YtgpdggjpbmgegaaDoorMrE
namespace Go.Proofs.YtgpdggjpbmgegaaDoor
open Go.RowKit
set_option linter.unusedVariables false
set_option linter.unusedSimpArgs false


set_option maxRecDepth 100000 in
set_option maxHeartbeats 2000000 in
theorem mcheck_trap (xb yb yo rb wb cnt cap : Nat) (x : MC) (xs : List Value) (a b : Nat) (c n va vb : Int) (regs words : List Int) (w : World) (hx : Own w xb x.cells) (hrow : w.ownsRow 0 105 5 (.slice (some ⟨yb, 0, none⟩) cnt cap) cnt xs) (hx3 : xs[yo + 3]? = some (.slice (some ⟨rb, 0, none⟩) regs.length regs.length)) (hx4 : xs[yo + 4]? = some (.slice (some ⟨wb, 0, none⟩) words.length words.length)) (hr : Own w rb (Nums regs)) (hw : Own w wb (Nums words)) (hne : rb ≠ wb ∧ xb ≠ rb ∧ xb ≠ wb ∧ xb ≠ yb) (ha : regs[a]? = some va) (hb : regs[b]? = some vb) (hm : regs.length ≤ 64) (hm2 : words.length ≤ 4096) (hvb : In64 vb) (hn : In64 n) (hc : va < 0 ∨ n ≤ va) :
    Calls Tryd.prog 77 #[.pointer (some ⟨xb, 0, none⟩), .pointer (some ⟨yb, yo, none⟩), .agg #[.int .i64 13, .int .i64 a, .int .i64 b, .int .i64 c, .int .i64 n]] w (fun e w' => e = .returned (.tuple #[]) ∧ Chg (· = xb) w w' ∧ Own w' xb { x with e := 51, v := 0, en := true }.cells) := by
  have la := some_lt ha
  have lb := some_lt hb
  have r0 := hr.num ha
  have r3 := hr.num hb
  have fa := hr.2.2 a
  have hrl := hr.1
  have hwl := hw.1
  have c3 := own_cells hrow hx3
  have c4 := own_cells hrow hx4
  have hyl : yb < w.heap.size := (hrow.lt yb rfl).2
  have HR := Lib.hid hrow; clear hrow
  have HG := Lib.hid hr; clear hr
  have HW := Lib.hid hw; clear hw
  have HX := Lib.hid hx; clear hx
  clear ha hb hx3 hx4
  have HX0 := Lib.hid (show ∀ w1, Below w.heap.size w w1 → Calls Tryd.prog 54 #[.pointer (some ⟨xb, 0, none⟩), .int .i64 51, .int .i64 0] w1 fun e w' => e = .returned (.tuple #[]) ∧ Chg (· = xb) w1 w' ∧ Own w' xb { x with e := 51, v := 0, en := true }.cells from fun w1 hb => mends_any xb x 51 0 w1 (HX.out.below hb))
  go_enter Tryd.func77, Tryd.ntmps77
  rcases (show va < 0 ∨ (0 ≤ va ∧ n ≤ va) by omega) with h | ⟨h, h2⟩
  · have d0 : decide (va < 0) = true := by simpa using h
    go_wp2
    go_quiet (fail)
    go_wp2_with (go_at_call 54; refine (HX0.out _ (by repeat (first | with_reducible exact Below.refl _ _ | with_reducible assumption | with_reducible refine Below.drew ?_ | with_reducible refine Below.drewN ?_ _ | with_reducible refine Below.alloc ?_ (by first | omega | (simp <;> omega) | (simp at * <;> omega)) _ | with_reducible refine Below.setCell ?_ (by first | omega | (simp <;> omega) | (simp at * <;> omega)) _ | (with_reducible refine Below.trans ?_ (Below.mono (by first | with_reducible assumption | exact hF _) (by first | omega | (simp <;> omega) | (simp at * <;> omega))))))).mono ?_; rintro e w1 ⟨rfl, hc1, ho1⟩)
    refine bodyPost_ret (results_none rfl _ _ _) rfl ?_
    exact ⟨rfl, Chg.trans (by repeat (first | with_reducible exact Chg.refl _ _ | with_reducible assumption | with_reducible refine Chg.drew ?_ | with_reducible refine Chg.drewN ?_ _ | with_reducible refine Chg.alloc ?_ _ | with_reducible refine Chg.setCell ?_ (by first | with_reducible exact .inl rfl | exact .inl (.inl rfl) | exact .inl (.inr rfl) | exact .inr (by simp)) _ | (with_reducible refine Chg.trans ?_ (Chg.of (by first | with_reducible assumption | exact hF _))))) hc1, ho1⟩
  · have d0 : decide (va < 0) = false := by simpa using h
    have d1 : decide (n ≤ va) = true := by simpa using h2
    go_wp2
    go_quiet (fail)
    go_wp2_with (go_at_call 54; refine (HX0.out _ (by repeat (first | with_reducible exact Below.refl _ _ | with_reducible assumption | with_reducible refine Below.drew ?_ | with_reducible refine Below.drewN ?_ _ | with_reducible refine Below.alloc ?_ (by first | omega | (simp <;> omega) | (simp at * <;> omega)) _ | with_reducible refine Below.setCell ?_ (by first | omega | (simp <;> omega) | (simp at * <;> omega)) _ | (with_reducible refine Below.trans ?_ (Below.mono (by first | with_reducible assumption | exact hF _) (by first | omega | (simp <;> omega) | (simp at * <;> omega))))))).mono ?_; rintro e w1 ⟨rfl, hc1, ho1⟩)
    refine bodyPost_ret (results_none rfl _ _ _) rfl ?_
    exact ⟨rfl, Chg.trans (by repeat (first | with_reducible exact Chg.refl _ _ | with_reducible assumption | with_reducible refine Chg.drew ?_ | with_reducible refine Chg.drewN ?_ _ | with_reducible refine Chg.alloc ?_ _ | with_reducible refine Chg.setCell ?_ (by first | with_reducible exact .inl rfl | exact .inl (.inl rfl) | exact .inl (.inr rfl) | exact .inr (by simp)) _ | (with_reducible refine Chg.trans ?_ (Chg.of (by first | with_reducible assumption | exact hF _))))) hc1, ho1⟩

set_option maxRecDepth 100000 in
set_option maxHeartbeats 2000000 in
theorem mcheck_ok (xb yb yo rb wb cnt cap : Nat) (x : MC) (xs : List Value) (a b : Nat) (c n va vb : Int) (regs words : List Int) (w : World) (hx : Own w xb x.cells) (hrow : w.ownsRow 0 105 5 (.slice (some ⟨yb, 0, none⟩) cnt cap) cnt xs) (hx3 : xs[yo + 3]? = some (.slice (some ⟨rb, 0, none⟩) regs.length regs.length)) (hx4 : xs[yo + 4]? = some (.slice (some ⟨wb, 0, none⟩) words.length words.length)) (hr : Own w rb (Nums regs)) (hw : Own w wb (Nums words)) (hne : rb ≠ wb ∧ xb ≠ rb ∧ xb ≠ wb ∧ xb ≠ yb) (ha : regs[a]? = some va) (hb : regs[b]? = some vb) (hm : regs.length ≤ 64) (hm2 : words.length ≤ 4096) (hvb : In64 vb) (hn : In64 n) (hc : 0 ≤ va ∧ va < n) :
    Calls Tryd.prog 77 #[.pointer (some ⟨xb, 0, none⟩), .pointer (some ⟨yb, yo, none⟩), .agg #[.int .i64 13, .int .i64 a, .int .i64 b, .int .i64 c, .int .i64 n]] w (fun e w' => e = .returned (.tuple #[]) ∧ Chg (fun _ => False) w w') := by
  have la := some_lt ha
  have lb := some_lt hb
  have r0 := hr.num ha
  have r3 := hr.num hb
  have fa := hr.2.2 a
  have hrl := hr.1
  have hwl := hw.1
  have c3 := own_cells hrow hx3
  have c4 := own_cells hrow hx4
  have hyl : yb < w.heap.size := (hrow.lt yb rfl).2
  have HR := Lib.hid hrow; clear hrow
  have HG := Lib.hid hr; clear hr
  have HW := Lib.hid hw; clear hw
  have HX := Lib.hid hx; clear hx
  clear ha hb hx3 hx4
  have d0 : decide (va < 0) = false := by simpa using hc.1
  have d1 : decide (n ≤ va) = false := by simpa using hc.2
  clear hc
  go_enter Tryd.func77, Tryd.ntmps77
  go_wp2
  go_quiet (fail)
  go_wp2
  refine bodyPost_ret (results_none rfl _ _ _) rfl ?_
  exact ⟨rfl, (by repeat (first | with_reducible exact Chg.refl _ _ | with_reducible assumption | with_reducible refine Chg.drew ?_ | with_reducible refine Chg.drewN ?_ _ | with_reducible refine Chg.alloc ?_ _ | with_reducible refine Chg.setCell ?_ (by first | with_reducible exact .inl rfl | exact .inl (.inl rfl) | exact .inl (.inr rfl) | exact .inr (by simp)) _ | (with_reducible refine Chg.trans ?_ (Chg.of (by first | with_reducible assumption | exact hF _)))))⟩

end Go.Proofs.YtgpdggjpbmgegaaDoor
