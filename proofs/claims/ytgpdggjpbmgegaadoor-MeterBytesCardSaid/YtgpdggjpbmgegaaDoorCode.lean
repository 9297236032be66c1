/- The contracts of package code: what its functions answer. -/
import Derived.Test.YtgpdggjpbmgegaaDoorHeap
namespace Go.Proofs.YtgpdggjpbmgegaaDoor
open Go.RowKit
set_option linter.unusedVariables false

theorem nameTo_succ (s : ByteArray) (k : Nat) (h : k < s.size) (hn : nameTo s k) (hk : (97 ≤ (s[k].toNat : Int) ∧ (s[k].toNat : Int) ≤ 122) ∨ (¬ k = 0 ∧ 48 ≤ (s[k].toNat : Int) ∧ (s[k].toNat : Int) ≤ 57)) : nameTo s (k + 1) := by
  intro i hi
  by_cases e : i = k
  · subst e; unfold nameAt letterB digitB; rw [getD_byte s i h]; grind
  · exact hn i (by omega)
theorem nameTo_not (s : ByteArray) (k : Nat) (h : k < s.size) (hk : ¬ ((97 ≤ (s[k].toNat : Int) ∧ (s[k].toNat : Int) ≤ 122) ∨ (¬ k = 0 ∧ 48 ≤ (s[k].toNat : Int) ∧ (s[k].toNat : Int) ≤ 57))) : isNameB s = false := by
  have : nameAt s k = false := by unfold nameAt letterB digitB; rw [getD_byte s k h]; grind
  unfold isNameB
  have : (List.range s.size).all (nameAt s) = false := by
    rw [List.all_eq_false]; exact ⟨k, List.mem_range.2 h, by rw [this]; decide⟩
  simp [this]
theorem nameTo_end (s : ByteArray) (k : Nat) (h : ¬ k < s.size) (hk : k ≤ s.size) (hn : nameTo s k) : (List.range s.size).all (nameAt s) = true := by
  rw [List.all_eq_true]; intro i hi; exact hn i (by simp at hi; omega)
theorem toList_len (s : ByteArray) : s.toList.length = s.size := by rw [ByteArray.toList_eq]; simp
theorem name_empty (s : ByteArray) (h : s.toList = []) : isNameB s = false := by
  have e := toList_len s; rw [h] at e; unfold isNameB; simp at e; grind
theorem name_fin (s : ByteArray) (h : (List.range s.size).all (nameAt s) = true) : isNameB s = (!s.toList.isEmpty && decide ((s.size : Int) ≤ 16)) := by
  have e := toList_len s; unfold isNameB; rw [h]; cases h2 : s.toList <;> rw [h2] at e <;> grind

set_option maxHeartbeats 400000 in
theorem isName_any (s : ByteArray) (w : World) (hs : s.size ≤ maxLen) :
    Calls Tryd.prog 57 #[.string s] w fun e w' => e = .returned (.bool (isNameB s)) ∧ w' = w := by
  unfold maxLen at hs
  go_enter Tryd.func57, Tryd.ntmps57
  go_wp2
  go_loop [7] (fun i => ∃ k : Nat, k ≤ s.size ∧ i = .int .i64 k ∧ nameTo s k) (fun i => s.size - (intOf i).toNat)
  case atStart => exact ⟨0, Nat.zero_le _, rfl, by intro i h; omega⟩
  case round =>
    obtain ⟨k, hk, rfl, hn⟩ := hrel
    have HE := nameTo_end s k
    have HS := nameTo_succ s k
    have HN := nameTo_not s k
    go_wp2
    all_goals first
      | (go_ret; go_light; refine ⟨?_, rfl⟩; refine ret_bool ?_; first | (rw [HN (by assumption) (by grind)]) | exact (name_empty s (by assumption)).symm | (rw [name_fin s (HE (by assumption) hk hn)]))
      | (go_round
         case rel => go_light; exact ⟨k + 1, by grind, by grind, HS (by assumption) hn (by grind)⟩
         case measure => go_light; simp [intOf]; grind)
      | skip
set_option maxHeartbeats 400000 in
theorem find1_any (nm s : ByteArray) (pa ca : Option Addr) (pl pc cl cc : Nat) (r wd : Int) (b o : Nat) (w : World) (hc : w.cell? ⟨b, o, none⟩ = some (.string s)) (hb : b < w.heap.size) :
    Calls Tryd.prog 60 #[.agg #[.string nm, .slice pa pl pc, .int .i64 r, .int .i64 wd, .slice ca cl cc], .pointer (some ⟨b, o, none⟩)] w fun e w' => e = .returned (.bool (nm.toList == s.toList)) ∧ Below w.heap.size w w' := by
  go_enter Tryd.func60, Tryd.ntmps60
  go_wp2
  go_ret
  go_light
  exact ⟨rfl, (by repeat (first | with_reducible exact Below.refl _ _ | with_reducible assumption | with_reducible refine Below.drew ?_ | with_reducible refine Below.drewN ?_ _ | with_reducible refine Below.alloc ?_ (by first | omega | (simp <;> omega) | (simp at * <;> omega)) _ | with_reducible refine Below.setCell ?_ (by first | omega | (simp <;> omega) | (simp at * <;> omega)) _ | (with_reducible refine Below.trans ?_ (Below.mono (by first | with_reducible assumption | exact hF _) (by first | omega | (simp <;> omega) | (simp at * <;> omega))))))⟩

set_option maxHeartbeats 400000 in
theorem index_any (B : Nat) (s : ByteArray) (fa : Option Addr) (fl fc : Nat) (fs : List PFunc) (b o : Nat) (w : World) (hB : B ≤ w.heap.size) (hf : FuncsAt B w fa fl fs) (hc : w.cell? ⟨b, o, none⟩ = some (.string s)) (hb : b < w.heap.size) :
    Calls Tryd.prog 59 #[.slice fa fl fc, .func (.func 60) #[] #[.pointer (some ⟨b, o, none⟩)]] w fun e w' => e = .returned (.int .i64 (findZ fs s)) ∧ Below w.heap.size w w' := by
  obtain ⟨hfl, hlen, fb, fo, hfa, H, hcs⟩ := hf
  unfold maxLen at hlen
  subst hfl
  go_enter Tryd.func59, Tryd.ntmps59
  go_wp2_with fail
  go_loopw [8] (fun i wr => ∃ k : Nat, k ≤ fs.length ∧ i = .int .i64 k ∧ Below w.heap.size w wr ∧ Hid (∀ j, j < k → ((fs.getD j default).name.toList == s.toList) = false)) (fun i _ => fs.length - (intOf i).toNat)
  case atStart => exact ⟨0, Nat.zero_le _, rfl, Below.refl _ _, by intro j h; omega⟩
  case round =>
    obtain ⟨k, hk, rfl, hbel, hn⟩ := hrel
    by_cases hlt : k < fs.length
    · obtain ⟨rfl, hfb⟩ := hfa (by omega)
      obtain ⟨⟨q0, q1, q2, q3, q4⟩, _⟩ := hcs k hlt
      obtain ⟨hc1, _⟩ := bcell hbel
      have hz : w.heap.size ≤ wr.heap.size := hbel.size
      have hcw : wr.cell? ⟨b, o, none⟩ = some (.string s) := by rw [hc1 _ _ hb]; exact hc
      have hx := Lib.hid hcs; clear hcs
      have hfw : fb < w.heap.size := by omega
      go_wp2_with (go_at_call 60; refine (find1_any _ _ _ _ _ _ _ _ _ _ _ _ _ hcw (by omega)).mono ?_; rintro e w1 ⟨rfl, hb1⟩)
      all_goals first
        | (go_roundw
           case rel => go_light; exact ⟨k + 1, by omega, by go_num, (by repeat (first | with_reducible exact Below.refl _ _ | with_reducible assumption | with_reducible refine Below.drew ?_ | with_reducible refine Below.drewN ?_ _ | with_reducible refine Below.alloc ?_ (by first | omega | (simp <;> omega) | (simp at * <;> omega)) _ | with_reducible refine Below.setCell ?_ (by first | omega | (simp <;> omega) | (simp at * <;> omega)) _ | (with_reducible refine Below.trans ?_ (Below.mono (by first | with_reducible assumption | exact hF _) (by first | omega | (simp <;> omega) | (simp at * <;> omega)))))), by grind [Hid]⟩
           case measure => go_light; simp [intOf]; omega)
        | (go_ret; go_light; exact ⟨ret_int (findZ_some fs s k hlt (by grind) hn.out).symm, (by repeat (first | with_reducible exact Below.refl _ _ | with_reducible assumption | with_reducible refine Below.drew ?_ | with_reducible refine Below.drewN ?_ _ | with_reducible refine Below.alloc ?_ (by first | omega | (simp <;> omega) | (simp at * <;> omega)) _ | with_reducible refine Below.setCell ?_ (by first | omega | (simp <;> omega) | (simp at * <;> omega)) _ | (with_reducible refine Below.trans ?_ (Below.mono (by first | with_reducible assumption | exact hF _) (by first | omega | (simp <;> omega) | (simp at * <;> omega))))))⟩)
    · have hx := Lib.hid hcs; clear hcs
      go_wp2
      go_ret
      go_light
      exact ⟨ret_int (findZ_none fs s (fun i hi => hn.out i (by omega))).symm, hbel⟩

set_option maxHeartbeats 400000 in
theorem find_any (B : Nat) (v : Value) (m : PMod) (s : ByteArray) (w : World) (hB : B ≤ w.heap.size) (hm : ModAt B w v m) :
    Calls Tryd.prog 35 #[v, .string s] w fun e w' => e = .returned (.int .i64 (findZ m.funcs s)) ∧ Below w.heap.size w w' := by
  obtain ⟨ta, tl, tc, fa, fl, fc, rfl, ht, hf⟩ := hm
  have hmf : ∀ (fn : Fn) (first cap : Array Value) (w : World), (Instr.makeFunc fn first cap).run Tryd.prog w = .ok (.func fn first cap) w := fun _ _ _ _ => rfl
  go_enter Tryd.func35, Tryd.ntmps35
  go_wp2_with (go_at_call 59; refine (index_any B s _ _ _ _ _ _ _ ?_ (hf.same ?_) ?_ ?_).mono ?_)
  · exact (by first | omega | (simp <;> omega) | (simp at * <;> omega))
  · exact (by repeat (first | with_reducible exact Same.refl _ _ | with_reducible assumption | with_reducible refine Same.drew ?_ | with_reducible refine Same.drewN ?_ _ | with_reducible refine Same.alloc ?_ (by first | omega | (simp <;> omega) | (simp at * <;> omega)) _ | with_reducible refine Same.setCell ?_ (by first | omega | (simp <;> omega) | (simp at * <;> omega)) _ | (with_reducible refine Same.trans ?_ (Same.of (by assumption) (by first | omega | (simp <;> omega) | (simp at * <;> omega))))))
  · simp
  · simp
  · rintro e w1 ⟨rfl, hb1⟩
    go_wp2
    go_ret
    go_light
    exact ⟨rfl, (by repeat (first | with_reducible exact Below.refl _ _ | with_reducible assumption | with_reducible refine Below.drew ?_ | with_reducible refine Below.drewN ?_ _ | with_reducible refine Below.alloc ?_ (by first | omega | (simp <;> omega) | (simp at * <;> omega)) _ | with_reducible refine Below.setCell ?_ (by first | omega | (simp <;> omega) | (simp at * <;> omega)) _ | (with_reducible refine Below.trans ?_ (Below.mono (by first | with_reducible assumption | exact hF _) (by first | omega | (simp <;> omega) | (simp at * <;> omega))))))⟩

set_option maxHeartbeats 400000 in
theorem known_any (op : Int) (w : World) :
    Calls Tryd.prog 58 #[.int .i64 op] w fun e w' => e = .returned (.bool (knownB op)) ∧ w' = w := by
  go_enter Tryd.func58, Tryd.ntmps58
  go_wp2
  all_goals (go_ret; go_light; refine ⟨ret_bool ?_, rfl⟩; unfold knownB; grind)

set_option maxHeartbeats 400000 in
theorem weight_any (op : Int) (w : World) (hr : RowsAt w) :
    Calls Tryd.prog 43 #[.int .i64 op] w fun e w' => e = .returned (.int .i64 (weightZ op)) ∧ w' = w := by
  by_cases hk : knownB op = true
  · have hk' := hk
    unfold knownB at hk'
    obtain ⟨k, rfl⟩ := Int.eq_ofNat_of_zero_le (show 0 ≤ op by grind)
    have hlt : k < 20 := by grind
    obtain ⟨_, q1, _⟩ := hr.2 k hlt
    clear hk'
    go_enter Tryd.func43, Tryd.ntmps43
    go_wp2_with (go_at_call 58; refine (known_any _ _).mono ?_; rintro e w1 ⟨rfl, rfl⟩)
    go_ret
    go_light
    exact ⟨ret_int (by simp [weightZ, hk]), rfl⟩
  · have hk0 : knownB op = false := by simpa using hk
    clear hk
    go_enter Tryd.func43, Tryd.ntmps43
    go_wp2_with (go_at_call 58; refine (known_any _ _).mono ?_; rintro e w1 ⟨rfl, rfl⟩)
    go_ret
    go_light
    exact ⟨ret_int (by simp [weightZ, hk0]), rfl⟩

end Go.Proofs.YtgpdggjpbmgegaaDoor
