/- The reference machine (R20): what an operation of two registers makes; the function of a name; whether arguments fit. -/
import Derived.Test.YtgpdggjpbmgegaaDoorMrA
namespace Go.Proofs.YtgpdggjpbmgegaaDoor
open Go.RowKit
set_option linter.unusedVariables false
set_option linter.unusedSimpArgs false


theorem wrap64_off (x : Int) : ∃ k, wrap64 x = x - 18446744073709551616 * k := ⟨(x + 9223372036854775808) / 18446744073709551616, by unfold wrap64; omega⟩
theorem wrap64_add_mul (r K : Int) (h : -9223372036854775808 ≤ r ∧ r ≤ 9223372036854775807) : wrap64 (r + 18446744073709551616 * K) = r := by unfold wrap64; omega
theorem rem_law (a b : Int) (hz : b ≠ 0) (hb : -9223372036854775808 ≤ b ∧ b ≤ 9223372036854775807) : wrap64 (a - wrap64 (wrap64 (a.tdiv b) * b)) = a.tmod b := by
  obtain ⟨k1, e1⟩ := wrap64_off (a.tdiv b)
  obtain ⟨k2, e2⟩ := wrap64_off (wrap64 (a.tdiv b) * b)
  have e3 : a - wrap64 (wrap64 (a.tdiv b) * b) = a.tmod b + 18446744073709551616 * (k1 * b + k2) := by
    rw [e2, e1, Int.tmod_def, Int.sub_mul, Int.mul_assoc, Int.mul_add, Int.mul_comm (a.tdiv b) b]
    omega
  rw [e3]
  refine wrap64_add_mul _ _ ?_
  have h1 : (a.tmod b).natAbs = a.natAbs % b.natAbs := Int.natAbs_tmod a b
  have h2 : a.natAbs % b.natAbs < b.natAbs := Nat.mod_lt _ (by omega)
  omega
/-- what number answers -/
def numberP (op a b : Int) : List Value := if (op = 6 ∨ op = 7) ∧ b = 0 then [.int .i64 0, .bool false] else [.int .i64 (numV op a b), .bool true]
set_option maxHeartbeats 1000000 in
theorem mnumber_any (op a b : Int) (w : World) (hop : 3 ≤ op ∧ op ≤ 9) (ha : In64 a) (hb : In64 b) :
    Calls Tryd.prog 76 #[.int .i64 op, .int .i64 a, .int .i64 b] w fun e w' => e = .returned (.tuple (numberP op a b).toArray) ∧ w' = w := by
  unfold In64 at ha hb
  rcases (show op = 3 ∨ op = 4 ∨ op = 5 ∨ op = 8 ∨ op = 9 ∨ op = 6 ∨ op = 7 by omega) with rfl | rfl | rfl | rfl | rfl | rfl | rfl
  all_goals clear hop
  · have hn : numberP 3 a b = [.int .i64 (wrap64 (a + b)), .bool true] := by simp [numberP, numV]
    rw [hn]
    go_enter Tryd.func76, Tryd.ntmps76
    go_wp2
    go_ret2
    exact ⟨rfl, rfl⟩
  · have hn : numberP 4 a b = [.int .i64 (wrap64 (a - b)), .bool true] := by simp [numberP, numV]
    rw [hn]
    go_enter Tryd.func76, Tryd.ntmps76
    go_wp2
    go_ret2
    exact ⟨rfl, rfl⟩
  · have hn : numberP 5 a b = [.int .i64 (wrap64 (a * b)), .bool true] := by simp [numberP, numV]
    rw [hn]
    go_enter Tryd.func76, Tryd.ntmps76
    go_wp2
    go_ret2
    exact ⟨rfl, rfl⟩
  · have hn : numberP 8 a b = [.int .i64 (truthZ (decide (a < b))), .bool true] := by simp [numberP, numV, truthZ]
    rw [hn]
    go_enter Tryd.func76, Tryd.ntmps76
    go_wp2_with (go_at_call 75; refine (mtruth_any _ _).mono ?_; rintro e w1 ⟨rfl, rfl⟩)
    go_ret2
    exact ⟨rfl, rfl⟩
  · have hn : numberP 9 a b = [.int .i64 (truthZ (a == b)), .bool true] := by simp [numberP, numV, truthZ]
    rw [hn]
    go_enter Tryd.func76, Tryd.ntmps76
    go_wp2_with (go_at_call 75; refine (mtruth_any _ _).mono ?_; rintro e w1 ⟨rfl, rfl⟩)
    go_ret2
    exact ⟨rfl, rfl⟩
  · by_cases hz : b = 0
    · subst hz
      have hn : numberP 6 a 0 = [.int .i64 0, .bool false] := by simp [numberP]
      rw [hn]
      go_enter Tryd.func76, Tryd.ntmps76
      go_wp2
      go_ret2
      exact ⟨rfl, rfl⟩
    · have hn : numberP 6 a b = [.int .i64 (wrap64 (a.tdiv b)), .bool true] := by simp [numberP, numV, hz]
      rw [hn]
      have z0 : (b == 0) = false := by simpa using hz
      by_cases h1 : a = -9223372036854775808
      · have z1 : (a != -9223372036854775808) = false := by simpa using h1
        by_cases h2 : b = -1
        · subst h1 h2
          go_enter Tryd.func76, Tryd.ntmps76
          go_wp2
          go_ret2
          exact ⟨by first | rfl | decide +kernel | kernel_rfl, rfl⟩
        · have z2 : (b != -1) = true := by simpa using h2
          clear hn h1 h2
          go_enter Tryd.func76, Tryd.ntmps76
          go_wp2
          go_ret2
          exact ⟨rfl, rfl⟩
      · have z1 : (a != -9223372036854775808) = true := by simpa using h1
        clear hn h1
        go_enter Tryd.func76, Tryd.ntmps76
        go_wp2
        go_ret2
        exact ⟨rfl, rfl⟩
  · by_cases hz : b = 0
    · subst hz
      have hn : numberP 7 a 0 = [.int .i64 0, .bool false] := by simp [numberP]
      rw [hn]
      go_enter Tryd.func76, Tryd.ntmps76
      go_wp2
      go_ret2
      exact ⟨rfl, rfl⟩
    · have hn : numberP 7 a b = [.int .i64 (a.tmod b), .bool true] := by simp [numberP, numV, hz]
      rw [hn]
      have z0 : (b == 0) = false := by simpa using hz
      by_cases h1 : a = -9223372036854775808
      · have z1 : (a != -9223372036854775808) = false := by simpa using h1
        by_cases h2 : b = -1
        · subst h1 h2
          go_enter Tryd.func76, Tryd.ntmps76
          go_wp2
          go_ret2
          exact ⟨by first | rfl | decide +kernel | kernel_rfl, rfl⟩
        · have z2 : (b != -1) = true := by simpa using h2
          clear hn h1 h2
          go_enter Tryd.func76, Tryd.ntmps76
          go_wp2
          go_ret2
          rw [← rem_law a b hz hb]
          exact ⟨rfl, rfl⟩
      · have z1 : (a != -9223372036854775808) = true := by simpa using h1
        clear hn h1
        go_enter Tryd.func76, Tryd.ntmps76
        go_wp2
        go_ret2
        rw [← rem_law a b hz hb]
        exact ⟨rfl, rfl⟩
