/- The reference's own checks (R9): its small functions, walked. -/
import Derived.Test.YtgpdggjpbmgegaaDoorCodeB
namespace Go.Proofs.YtgpdggjpbmgegaaDoor
open Go.RowKit
set_option linter.unusedVariables false
set_option linter.unusedSimpArgs false


theorem rknown_any (op : Int) (w : World) :
    Calls Tryd.prog 46 #[.int .i64 op] w fun e w' => e = .returned (.bool (knownB op)) ∧ w' = w := by
  have hk : knownB op = (decide (0 ≤ op) && decide (op ≤ 19)) := by unfold knownB; grind
  rw [hk]
  go_enter Tryd.func46, Tryd.ntmps46
  go_wp2
  all_goals
    go_ret
    go_light
    refine ⟨ret_bool ?_, rfl⟩
    grind

theorem rregister_any (has : Bool) (r regs : Int) (w : World) :
    Calls Tryd.prog 48 #[.bool has, .int .i64 r, .int .i64 regs] w fun e w' => e = .returned (.int .i64 (fieldP has r regs)) ∧ w' = w := by
  cases has
  all_goals
    go_enter Tryd.func48, Tryd.ntmps48
    go_wp2
  all_goals
    go_ret
    go_light
    refine ⟨ret_int ?_, rfl⟩
    unfold fieldP
    grind

theorem rtarget_any (op : Int) (w : World) :
    Calls Tryd.prog 49 #[.int .i64 op] w fun e w' => e = .returned (.bool (decide (op = 14 ∨ op = 15 ∨ op = 16 ∨ op = 17 ∨ op = 18))) ∧ w' = w := by
  go_enter Tryd.func49, Tryd.ntmps49
  go_wp2
  all_goals
    go_ret
    go_light
    refine ⟨ret_bool ?_, rfl⟩
    grind

set_option maxHeartbeats 400000 in
theorem risName_any (s : ByteArray) (w : World) (hs : s.size ≤ maxLen) :
    Calls Tryd.prog 45 #[.string s] w fun e w' => e = .returned (.bool (isNameB s)) ∧ w' = w := by
  unfold maxLen at hs
  go_enter Tryd.func45, Tryd.ntmps45
  go_wp2
  all_goals first
    | (go_ret; go_light; refine ⟨ret_bool ?_, rfl⟩; unfold isNameB; grind)
    | skip
  go_loop [3] (fun i => ∃ k : Nat, k ≤ s.size ∧ i = .int .i64 k ∧ nameTo s k) (fun i => s.size - (intOf i).toNat)
  case atStart => exact ⟨0, Nat.zero_le _, rfl, by intro i h; omega⟩
  case round =>
    obtain ⟨k, hk, rfl, hn⟩ := hrel
    have HE := nameTo_end s k
    have HS := nameTo_succ s k
    have HN := nameTo_not s k
    go_wp2
    all_goals first
      | (go_ret; go_light; refine ⟨?_, rfl⟩; refine ret_bool ?_; first | (rw [HN (by assumption) (by grind)]) | (have := HE (by assumption) hk hn; unfold isNameB; rw [this]; grind))
      | (go_round
         case rel => go_light; exact ⟨k + 1, by grind, by grind, HS (by assumption) hn (by grind)⟩
         case measure => go_light; simp [intOf]; grind)
      | skip

def hasP (op : Int) : List Value := let R := rowAt op.toNat; [.bool R.a, .bool R.b, .bool R.c, .bool (decide (R.n ≠ 0))]
theorem hasA (k : Nat) (h : k = 0) : hasP k = [.bool true, .bool false, .bool false, .bool false] := by subst h; rfl
theorem hasB (k : Nat) (h : k = 1 ∨ k = 13 ∨ k = 15 ∨ k = 16 ∨ k = 18) : hasP k = [.bool true, .bool false, .bool false, .bool true] := by rcases h with rfl | rfl | rfl | rfl | rfl <;> rfl
theorem hasC (k : Nat) (h : k = 2 ∨ k = 10) : hasP k = [.bool true, .bool true, .bool false, .bool false] := by rcases h with rfl | rfl <;> rfl
theorem hasD (k : Nat) (h : 3 ≤ k ∧ k ≤ 9) : hasP k = [.bool true, .bool true, .bool true, .bool false] := by
  rcases (show k = 3 ∨ k = 4 ∨ k = 5 ∨ k = 6 ∨ k = 7 ∨ k = 8 ∨ k = 9 by omega) with rfl | rfl | rfl | rfl | rfl | rfl | rfl <;> rfl
theorem hasE (k : Nat) (h : k = 11 ∨ k = 12 ∨ k = 17 ∨ k = 19) : hasP k = [.bool true, .bool true, .bool false, .bool true] := by rcases h with rfl | rfl | rfl | rfl <;> rfl
theorem hasF (k : Nat) (h : k = 14) : hasP k = [.bool false, .bool false, .bool false, .bool true] := by subst h; rfl
theorem has_end (Q : Ending → World → Prop) (T : Array Value) (W : World) (k : Nat) (a b c d : Value) (ho : Own W k [a, b, c, d]) (hT : T[2]? = some (.pointer (some ⟨k, 0, none⟩)))
    (hq : Q (.returned (.agg #[a, b, c, d])) W) : bodyPost Tryd.prog Tryd.f47 Q .ret { tmps := T, defers := [] } W := by
  have r0 := ho.2.1 0 _ rfl
  have r1 := ho.2.1 1 _ rfl
  have r2 := ho.2.1 2 _ rfl
  have r3 := ho.2.1 3 _ rfl
  have hr : (results Tryd.f47 T).run Tryd.prog W = .ok (.agg #[a, b, c, d]) W := by
    simp [results, Tryd.results47, go_sem, hT, r0, r1, r2, r3]
  exact bodyPost_ret hr rfl hq
set_option maxHeartbeats 400000 in
theorem rhas_any (op : Int) (w : World) (hk : knownB op = true) :
    Calls Tryd.prog 47 #[.int .i64 op] w fun e w' => e = .returned (.agg (hasP op).toArray) ∧ Below w.heap.size w w' := by
  have h0 : 0 ≤ op ∧ op < 20 := by unfold knownB at hk; grind
  obtain ⟨k, rfl⟩ := Int.eq_ofNat_of_zero_le h0.1
  have hlt : k < 20 := by omega
  clear hk h0
  go_enter Tryd.func47, Tryd.ntmps47
  go_wp2
  all_goals first
    | (refine has_end _ _ _ w.heap.size _ _ _ _ (Own.new w _ _) rfl ⟨?_, (by repeat (first | with_reducible exact Below.refl _ _ | with_reducible assumption | with_reducible refine Below.drew ?_ | with_reducible refine Below.drewN ?_ _ | with_reducible refine Below.alloc ?_ (by first | omega | (simp <;> omega) | (simp at * <;> omega)) _ | with_reducible refine Below.setCell ?_ (by first | omega | (simp <;> omega) | (simp at * <;> omega)) _ | (with_reducible refine Below.trans ?_ (Below.mono (by first | with_reducible assumption | exact hF _) (by first | omega | (simp <;> omega) | (simp at * <;> omega))))))⟩
       simp only [beq_iff_eq, beq_eq_false_iff_ne, ne_eq] at *
       first
         | (rw [hasA k (by omega)])
         | (rw [hasB k (by omega)])
         | (rw [hasC k (by omega)])
         | (rw [hasD k (by omega)])
         | (rw [hasE k (by omega)])
         | (rw [hasF k (by omega)]))
    | (exfalso; simp only [beq_iff_eq, beq_eq_false_iff_ne, ne_eq] at *; omega)
end Go.Proofs.YtgpdggjpbmgegaaDoor
