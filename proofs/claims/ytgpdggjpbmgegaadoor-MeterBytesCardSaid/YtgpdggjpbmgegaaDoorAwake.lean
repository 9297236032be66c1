/- awake: the two runs of the module of three instructions. -/
import Derived.Test.YtgpdggjpbmgegaaDoorMeter
namespace Go.Proofs.YtgpdggjpbmgegaaDoor
open Go.RowKit
set_option linter.unusedVariables false
set_option linter.unusedSimpArgs false


def wakeM : PMod := ⟨[], [⟨⟨#[102]⟩, [], 1, 0, [⟨1, 0, 0, 0, 7⟩, ⟨5, 0, 0, 0, 0⟩, ⟨0, 0, 0, 0, 0⟩]⟩]⟩
theorem wake5 : meterP wakeM ⟨#[102]⟩ [] 5 = ⟨0, 49, 5, 1, 1⟩ := by kernel_rfl
theorem wake4 : meterP wakeM ⟨#[102]⟩ [] 4 = ⟨90, 0, 4, 1, 1⟩ := by kernel_rfl

def wakeC : List Value := [.int .i64 1, .int .i64 0, .int .i64 0, .int .i64 0, .int .i64 7, .int .i64 5, .int .i64 0, .int .i64 0, .int .i64 0, .int .i64 0, .int .i64 0, .int .i64 0, .int .i64 0, .int .i64 0, .int .i64 0]
theorem wake_at {W : World} {B cb fb : Nat} (o1 : Own W cb wakeC) (o2 : Own W fb [.string ⟨#[102]⟩, .slice none 0 0, .int .i64 1, .int .i64 0, .slice (some ⟨cb, 0, none⟩) 3 3]) (h1 : cb < B) (h2 : fb < B) :
    ModAt B W (.agg #[.slice none 0 0, .slice (some ⟨fb, 0, none⟩) 1 1]) wakeM := by
  obtain ⟨_, f0, f1, f2, f3, f4, _⟩ := own5 o2
  refine ⟨_, _, _, _, _, _, rfl, ⟨rfl, by decide, 0, 0, fun h => absurd h (by decide), fun i h => absurd h (Nat.not_lt_zero i)⟩, rfl, by decide, fb, 0, fun _ => ⟨rfl, h2⟩, fun _ => ⟨none, 0, 0, some ⟨cb, 0, none⟩, 3, 3⟩, fun i hi => ?_⟩
  obtain rfl : i = 0 := by omega
  refine ⟨⟨f0, f1, f2, f3, f4⟩, by decide, ⟨rfl, Nat.zero_le _, 0, 0, fun h => absurd h (Nat.lt_irrefl 0), fun i h => absurd h (Nat.not_lt_zero i)⟩, ⟨rfl, (by decide : 3 ≤ maxLen), cb, 0, fun _ => ⟨rfl, h1⟩, fun j hj => ?_⟩, ⟨by decide, by decide⟩, ⟨by decide, by decide⟩⟩
  have hj : j < 3 := hj
  have c := o1.2.1
  rcases (show j = 0 ∨ j = 1 ∨ j = 2 by omega) with rfl | rfl | rfl
  · exact ⟨⟨c 0 _ rfl, c 1 _ rfl, c 2 _ rfl, c 3 _ rfl, c 4 _ rfl⟩, ⟨by decide, by decide⟩, ⟨by decide, by decide⟩, ⟨by decide, by decide⟩, ⟨by decide, by decide⟩, ⟨by decide, by decide⟩⟩
  · exact ⟨⟨c 5 _ rfl, c 6 _ rfl, c 7 _ rfl, c 8 _ rfl, c 9 _ rfl⟩, ⟨by decide, by decide⟩, ⟨by decide, by decide⟩, ⟨by decide, by decide⟩, ⟨by decide, by decide⟩, ⟨by decide, by decide⟩⟩
  · exact ⟨⟨c 10 _ rfl, c 11 _ rfl, c 12 _ rfl, c 13 _ rfl, c 14 _ rfl⟩, ⟨by decide, by decide⟩, ⟨by decide, by decide⟩, ⟨by decide, by decide⟩, ⟨by decide, by decide⟩, ⟨by decide, by decide⟩⟩

set_option maxRecDepth 100000 in
set_option maxHeartbeats 2000000 in
theorem awake_any (w : World) (hr : RowsAt w) : Calls Tryd.prog 8 #[] w fun e w' => e = .returned (.bool true) ∧ Below w.heap.size w w' := by
  have hB0 := hr.1
  have Hrow := Lib.hid hr; clear hr
  have hmeter := fun (w1 : World) (hz : w.heap.size ≤ w1.heap.size) (hs : Same w.heap.size w w1) v (hm : ModAt w1.heap.size w1 v wakeM) (f : Int) (hf : f ≤ 1099511627776) =>
    meter_any (B := w1.heap.size) v wakeM w1 (Nat.le_refl _) (by omega) hm (Hrow.out.same hs hB0 hz) ⟨#[102]⟩ none 0 0 [] ⟨rfl, by decide, 0, 0, fun h => absurd h (by decide), fun i h => absurd h (Nat.not_lt_zero i)⟩ f hf
  have HM := Lib.hid hmeter; clear hmeter
  go_enter Tryd.func8, Tryd.ntmps8
  go_wp2_with fail
  generalize hW : World.alloc _ _ = W
  have hb0 : Below w.heap.size w W := by rw [← hW]; exact (by repeat (first | with_reducible exact Below.refl _ _ | with_reducible assumption | with_reducible refine Below.drew ?_ | with_reducible refine Below.drewN ?_ _ | with_reducible refine Below.alloc ?_ (by first | omega | (simp <;> omega) | (simp at * <;> omega)) _ | with_reducible refine Below.setCell ?_ (by first | omega | (simp <;> omega) | (simp at * <;> omega)) _ | (with_reducible refine Below.trans ?_ (Below.mono (by first | with_reducible assumption | exact hF _) (by first | omega | (simp <;> omega) | (simp at * <;> omega))))))
  have o1 : Own W w.heap.size wakeC := by rw [← hW]; exact ((Own.new w wakeC _).alloc _).alloc _
  have o2 : Own W (w.heap.size + 1) [.string ⟨#[102]⟩, .slice none 0 0, .int .i64 1, .int .i64 0, .slice (some ⟨w.heap.size, 0, none⟩) 3 3] := by rw [← hW]; exact (Own.new' _ _ _ _ (by simp)).alloc _
  have o3 : Own W (w.heap.size + 1 + 1) [.slice none 0 0, .slice (some ⟨w.heap.size + 1, 0, none⟩) 1 1] := by rw [← hW]; exact Own.new' _ _ _ _ (by simp)
  have O1 := Lib.hid o1; clear o1
  have O2 := Lib.hid o2; clear o2
  have O3 := Lib.hid o3; clear o3
  have hz0 : w.heap.size + 2 < W.heap.size := O3.out.1
  clear hW
  refine (HM.out W (by omega) (Same.of' hb0) _ (wake_at O1.out O2.out (by omega) (by omega)) 5 (by decide)).mono ?_
  rw [wake5]
  unfold outV
  rintro e w1 ⟨rfl, hb1⟩
  obtain ⟨_, c0, c1, _⟩ := own2 (O3.out.below hb1)
  have hz1 := hb1.size
  have O1' := Lib.hid (O1.out.below hb1)
  have O2' := Lib.hid (O2.out.below hb1)
  have hb2 : Below w.heap.size w w1 := hb0.trans (Below.mono hb1 (by omega))
  go_wp2_with fail
  generalize hW : World.alloc _ _ = W2
  have hb3 : Below w1.heap.size w1 W2 := by rw [← hW]; exact (by repeat (first | with_reducible exact Below.refl _ _ | with_reducible assumption | with_reducible refine Below.drew ?_ | with_reducible refine Below.drewN ?_ _ | with_reducible refine Below.alloc ?_ (by first | omega | (simp <;> omega) | (simp at * <;> omega)) _ | with_reducible refine Below.setCell ?_ (by first | omega | (simp <;> omega) | (simp at * <;> omega)) _ | (with_reducible refine Below.trans ?_ (Below.mono (by first | with_reducible assumption | exact hF _) (by first | omega | (simp <;> omega) | (simp at * <;> omega))))))
  have oa : Own W2 w1.heap.size [.int .i64 0, .int .i64 49, .int .i64 5, .int .i64 1, .int .i64 1] := by rw [← hW]; exact Own.new' _ _ _ _ (by simp)
  clear hW
  have hz2 := oa.1
  have hb4 : Below w.heap.size w W2 := hb2.trans (Below.mono hb3 (by omega))
  have Oa := Lib.hid oa; clear oa
  refine (HM.out W2 (by omega) (Same.of' hb4) _ (wake_at (O1'.out.below hb3) (O2'.out.below hb3) (by omega) (by omega)) 4 (by decide)).mono ?_
  rw [wake4]
  unfold outV
  rintro e w3 ⟨rfl, hb5⟩
  have oa := Oa.out.below hb5
  have q5 := own5 oa
  have hz3 := hb5.size
  have hb6 : Below w.heap.size w w3 := hb4.trans (Below.mono hb5 (by omega))
  have hz4 : w1.heap.size < w3.heap.size := by omega
  go_wp2
  go_ret
  exact ⟨rfl, (by repeat (first | with_reducible exact Below.refl _ _ | with_reducible assumption | with_reducible refine Below.drew ?_ | with_reducible refine Below.drewN ?_ _ | with_reducible refine Below.alloc ?_ (by first | omega | (simp <;> omega) | (simp at * <;> omega)) _ | with_reducible refine Below.setCell ?_ (by first | omega | (simp <;> omega) | (simp at * <;> omega)) _ | (with_reducible refine Below.trans ?_ (Below.mono (by first | with_reducible assumption | exact hF _) (by first | omega | (simp <;> omega) | (simp at * <;> omega))))))⟩
end Go.Proofs.YtgpdggjpbmgegaaDoor
