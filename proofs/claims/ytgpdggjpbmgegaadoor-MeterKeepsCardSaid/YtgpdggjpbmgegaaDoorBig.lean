/- R9.Big: where it says no, a module's lists are short. -/
import Derived.Test.YtgpdggjpbmgegaaDoorMay
import Derived.Test.YtgpdggjpbmgegaaDoorLens
namespace Go.Proofs.YtgpdggjpbmgegaaDoor
open Go.RowKit
set_option linter.unusedVariables false
set_option linter.unusedSimpArgs false



def BigPost (m : PMod) (w : World) (e : Ending) (w' : World) : Prop := ∃ b, e = .returned (.bool b) ∧ Below w.heap.size w w' ∧ (b = false → SmallMod m)

set_option maxRecDepth 100000 in
set_option maxHeartbeats 1500000 in
theorem big_any (B : Nat) (v : Value) (m : PMod) (w : World) (hB : B ≤ w.heap.size) (hm : ModAt B w v m) (hlm : LenMod m) :
    Calls Tryd.prog 12 #[v] w (BigPost m w) := by
  obtain ⟨ta, tl, tc, fa, fl, fc, rfl, ⟨htl, htm, _⟩, ⟨hfl, hlen, fb, fo, hfa, H, hcs⟩⟩ := hm
  subst hfl htl
  have Hcs := Lib.hid hcs; clear hcs
  obtain ⟨lt1, lt2, lt3⟩ := hlm
  have Hl3 := Lib.hid lt3; clear lt3
  unfold maxLen at hlen htm
  have hw1 : IntKind.i64.wrap (1048576 - (m.thr.length : Int)) = 1048576 - m.thr.length := IntWalk.i64_in _ (by omega)
  have hw2 : IntKind.i64.wrap (1048576 - (m.thr.length : Int) - (m.funcs.length : Int)) = 1048576 - m.thr.length - m.funcs.length := IntWalk.i64_in _ (by omega)
  go_enter Tryd.func12, Tryd.ntmps12
  go_wp2
  generalize hW0 : World.alloc _ _ = W0
  have hb0 : Below w.heap.size w W0 := by rw [← hW0]; exact (by repeat (first | with_reducible exact Below.refl _ _ | with_reducible assumption | with_reducible refine Below.drew ?_ | with_reducible refine Below.drewN ?_ _ | with_reducible refine Below.alloc ?_ (by first | omega | (simp <;> omega) | (simp at * <;> omega)) _ | with_reducible refine Below.setCell ?_ (by first | omega | (simp <;> omega) | (simp at * <;> omega)) _ | (with_reducible refine Below.trans ?_ (Below.mono (by first | with_reducible assumption | exact hF _) (by first | omega | (simp <;> omega) | (simp at * <;> omega))))))
  have Om := Lib.hid (show Own W0 w.heap.size [.slice ta m.thr.length tc, .slice fa m.funcs.length fc] by rw [← hW0]; exact Own.new _ _ _)
  clear hW0
  have hz0 := Om.out.1
  go_loopw [3, 4] (fun l i wr => ∃ (k : Nat) (left : Int), k ≤ m.funcs.length ∧ i = .int .i64 k ∧ l = .int .i64 left ∧ left ≤ 1048576 - m.thr.length - m.funcs.length ∧ -9000000000000000000 ≤ left ∧ Below W0.heap.size W0 wr ∧ Hid (0 ≤ left → ∀ j, j < k → (fnAt m j).params.length ≤ 1048576 ∧ (fnAt m j).code.length ≤ 1048576)) (fun _ i _ => m.funcs.length - (intOf i).toNat)
  case atStart => exact ⟨0, _, Nat.zero_le _, rfl, rfl, Int.le_refl _, by omega, Below.refl _ _, fun _ j h => by omega⟩
  case round =>
    obtain ⟨k, left, hk, rfl, rfl, hl1, hl2, hbel, hn⟩ := hrel
    have hz := hbel.size
    have om := own2 (Om.out.below hbel)
    have hwk : IntKind.i64.wrap ((k : Int) + 1) = (k : Int) + 1 := IntWalk.i64_in _ (by omega)
    by_cases h0 : left < 0
    · have d0 : decide (0 ≤ left) = false := by simpa using h0
      have d1 : decide (left < 0) = true := by simpa using h0
      go_wp2
      all_goals refine bodyPost_ret (v := .bool true) (by simp [results, Tryd.results12, go_sem]) rfl ⟨true, rfl, (by repeat (first | with_reducible exact Below.refl _ _ | with_reducible assumption | with_reducible refine Below.drew ?_ | with_reducible refine Below.drewN ?_ _ | with_reducible refine Below.alloc ?_ (by first | omega | (simp <;> omega) | (simp at * <;> omega)) _ | with_reducible refine Below.setCell ?_ (by first | omega | (simp <;> omega) | (simp at * <;> omega)) _ | (with_reducible refine Below.trans ?_ (Below.mono (by first | with_reducible assumption | exact hF _) (by first | omega | (simp <;> omega) | (simp at * <;> omega)))))), fun h => by simp at h⟩
    · have d0 : decide (0 ≤ left) = true := by simpa using h0
      have d1 : decide (left < 0) = false := by simpa using h0
      by_cases hlt : k < m.funcs.length
      · have d2 : decide ((k : Int) < (m.funcs.length : Int)) = true := by simpa using hlt
        obtain ⟨rfl, hfb⟩ := hfa (by omega)
        obtain ⟨⟨c0, c1, c2, c3, c4⟩, ok⟩ := Hcs.out k hlt
        have q1 := ok.2.1.1
        have q2 := ok.2.2.1.1
        have q3 : ((H k).pl : Int) ≤ 140737488355328 := by have := (Hl3.out k hlt).1; unfold fnAt at this; omega
        have q4 : ((H k).cl : Int) ≤ 140737488355328 := by have := (Hl3.out k hlt).2; unfold fnAt at this; omega
        have hc := (bcell (hb0.trans (Below.mono hbel (by omega)))).1
        have t1 := (hc fb _ (by omega)).trans c1
        have t4 := (hc fb _ (by omega)).trans c4
        have hfw : fb < wr.heap.size := by omega
        have hwp : IntKind.i64.wrap (left - ((H k).pl : Int)) = left - (H k).pl := IntWalk.i64_in _ (by omega)
        have hwc : IntKind.i64.wrap (left - ((H k).pl : Int) - ((H k).cl : Int)) = left - (H k).pl - (H k).cl := IntWalk.i64_in _ (by omega)
        clear hc c0 c1 c2 c3 c4 ok
        go_wp2
        go_roundw
        case rel =>
          refine ⟨k + 1, _, by omega, by simp, rfl, by omega, by omega, (by repeat (first | with_reducible exact Below.refl _ _ | with_reducible assumption | with_reducible refine Below.drew ?_ | with_reducible refine Below.drewN ?_ _ | with_reducible refine Below.alloc ?_ (by first | omega | (simp <;> omega) | (simp at * <;> omega)) _ | with_reducible refine Below.setCell ?_ (by first | omega | (simp <;> omega) | (simp at * <;> omega)) _ | (with_reducible refine Below.trans ?_ (Below.mono (by first | with_reducible assumption | exact hF _) (by first | omega | (simp <;> omega) | (simp at * <;> omega)))))), fun h j hj => ?_⟩
          by_cases e : j = k
          · subst e
            unfold fnAt
            omega
          · exact hn.out (by omega) j (by omega)
        case measure => go_light; first | omega | (simp only [intOf]; omega)
      · have hkn : k = m.funcs.length := by omega
        have d2 : decide ((k : Int) < (m.funcs.length : Int)) = false := by simpa using (show (m.funcs.length : Int) ≤ k by omega)
        go_wp2
        refine bodyPost_ret (v := .bool false) (by simp [results, Tryd.results12, go_sem]) rfl ⟨false, rfl, (by repeat (first | with_reducible exact Below.refl _ _ | with_reducible assumption | with_reducible refine Below.drew ?_ | with_reducible refine Below.drewN ?_ _ | with_reducible refine Below.alloc ?_ (by first | omega | (simp <;> omega) | (simp at * <;> omega)) _ | with_reducible refine Below.setCell ?_ (by first | omega | (simp <;> omega) | (simp at * <;> omega)) _ | (with_reducible refine Below.trans ?_ (Below.mono (by first | with_reducible assumption | exact hF _) (by first | omega | (simp <;> omega) | (simp at * <;> omega)))))), fun _ => ⟨by omega, by omega, fun i hi => ?_⟩⟩
        exact hn.out (by omega) i (by omega)
end Go.Proofs.YtgpdggjpbmgegaaDoor
