/- The reference machine (R20): its small functions, walked. -/
import Derived.Test.YtgpdggjpbmgegaaDoorEngE
import Derived.Test.YtgpdggjpbmgegaaDoorCode
namespace Go.Proofs.YtgpdggjpbmgegaaDoor
open Go.RowKit
set_option linter.unusedVariables false
set_option linter.unusedSimpArgs false


theorem mtruth_any (b : Bool) (w : World) : Calls Tryd.prog 75 #[.bool b] w fun e w' => e = .returned (.int .i64 (truthZ b)) ∧ w' = w := by
  cases b
  all_goals
    go_enter Tryd.func75, Tryd.ntmps75
    go_wp2
    go_ret
    exact ⟨rfl, rfl⟩

theorem weights : ∀ k : Nat, k < 20 → weightZ k = if k = 5 then 3 else if k = 6 ∨ k = 7 then 8 else if k = 11 ∨ k = 12 then 2 else if k = 19 then 4 else 1 := by decide
theorem mweight_any (op : Int) (w : World) (hk : knownB op = true) : Calls Tryd.prog 53 #[.int .i64 op] w fun e w' => e = .returned (.int .i64 (weightZ op)) ∧ w' = w := by
  have h0 : 0 ≤ op ∧ op < 20 := by unfold knownB at hk; grind
  obtain ⟨k, rfl⟩ := Int.eq_ofNat_of_zero_le h0.1
  have hlt : k < 20 := by omega
  clear hk h0
  have hw := Lib.hid (weights k hlt)
  generalize weightZ (k : Int) = W at *
  go_enter Tryd.func53, Tryd.ntmps53
  go_wp2
  all_goals first
    | (go_ret; go_light; refine ⟨ret_int ?_, rfl⟩; simp only [beq_iff_eq, beq_eq_false_iff_ne, ne_eq] at *; rw [hw.out]; grind)
    | (exfalso; simp only [beq_iff_eq, beq_eq_false_iff_ne, ne_eq] at *; omega)

/-- the number of the word that a load or store speaks of; -1: none -/
def wordP (base off words : Int) : Int := if 0 ≤ base + off ∧ base + off < words then base + off else -1
theorem mword_any (base off words : Int) (w : World) (hb : In64 base) (ho : In64 off) (hw : 0 ≤ words ∧ words ≤ 4096) : Calls Tryd.prog 82 #[.int .i64 base, .int .i64 off, .int .i64 words] w fun e w' => e = .returned (.int .i64 (wordP base off words)) ∧ w' = w := by
  unfold In64 at hb ho
  obtain ⟨W, hW⟩ : ∃ x, x = wordP base off words := ⟨_, rfl⟩
  rw [← hW]
  have HW := Lib.hid hW; clear hW
  by_cases h0 : 0 ≤ off
  · have w1 : IntKind.i64.wrap (9223372036854775807 - off) = 9223372036854775807 - off := IntWalk.i64_in _ (by omega)
    have e0 : decide ((0 : Int) ≤ off) = true := by simpa using h0
    by_cases h1 : 9223372036854775807 - off < base
    · have e1 : decide (9223372036854775807 - off < base) = true := by simpa using h1
      go_enter Tryd.func82, Tryd.ntmps82
      go_wp2
      go_ret
      go_light
      exact ⟨ret_int (by rw [HW.out]; unfold wordP; rw [if_neg (by omega)]), rfl⟩
    · have e1 : decide (9223372036854775807 - off < base) = false := by simpa using h1
      have e2 : decide (off < 0) = false := by simpa using h0
      have w2 : IntKind.i64.wrap (base + off) = base + off := IntWalk.i64_in _ (by omega)
      go_enter Tryd.func82, Tryd.ntmps82
      go_wp2
      all_goals
        go_ret
        go_light
        refine ⟨ret_int ?_, rfl⟩
        rw [HW.out]; unfold wordP
        first | rw [if_neg (by omega)] | rw [if_pos (by omega)]
  · have w1 : IntKind.i64.wrap (-9223372036854775808 - off) = -9223372036854775808 - off := IntWalk.i64_in _ (by omega)
    have e0 : decide ((0 : Int) ≤ off) = false := by simpa using h0
    have e2 : decide (off < 0) = true := by simpa using h0
    by_cases h1 : base < -9223372036854775808 - off
    · have e1 : decide (base < -9223372036854775808 - off) = true := by simpa using h1
      go_enter Tryd.func82, Tryd.ntmps82
      go_wp2
      go_ret
      go_light
      exact ⟨ret_int (by rw [HW.out]; unfold wordP; rw [if_neg (by omega)]), rfl⟩
    · have e1 : decide (base < -9223372036854775808 - off) = false := by simpa using h1
      have w2 : IntKind.i64.wrap (base + off) = base + off := IntWalk.i64_in _ (by omega)
      go_enter Tryd.func82, Tryd.ntmps82
      go_wp2
      all_goals
        go_ret
        go_light
        refine ⟨ret_int ?_, rfl⟩
        rw [HW.out]; unfold wordP
        first | rw [if_neg (by omega)] | rw [if_pos (by omega)]
end Go.Proofs.YtgpdggjpbmgegaaDoor
