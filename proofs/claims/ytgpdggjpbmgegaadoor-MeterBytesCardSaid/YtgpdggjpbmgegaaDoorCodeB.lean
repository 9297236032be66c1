/- The contracts of package code, continued: what is wrong with a module. -/
import Derived.Test.YtgpdggjpbmgegaaDoorCode
namespace Go.Proofs.YtgpdggjpbmgegaaDoor
open Go.RowKit
set_option linter.unusedVariables false
set_option linter.unusedSimpArgs false

theorem ret_int2 {a b c d : Int} (h : (a, b) = (c, d)) : Ending.returned (.tuple #[.int .i64 a, .int .i64 b]) = .returned (.tuple #[.int .i64 c, .int .i64 d]) := by
  rw [Prod.mk.injEq] at h; rw [h.1, h.2]

set_option maxHeartbeats 1000000 in
theorem whole_any (B : Nat) (v : Value) (m : PMod) (f : Nat) (w : World) (hB : B ≤ w.heap.size) (hm : ModAt B w v m) (hfl : f < m.funcs.length) :
    Calls Tryd.prog 33 #[v, .int .i64 f] w fun e w' => e = .returned (.tuple #[.int .i64 (wholeP m f).1, .int .i64 (wholeP m f).2]) ∧ Below w.heap.size w w' := by
  have hm0 := hm
  obtain ⟨ta, tl, tc, fa, fl, fc, rfl, ht, hf⟩ := hm
  obtain ⟨hfl', hlen, fb, fo, hfa, H, hcs⟩ := hf
  subst hfl'
  obtain ⟨rfl, hfb⟩ := hfa (by omega)
  obtain ⟨⟨q0, q1, q2, q3, q4⟩, hnm, ⟨hpl, hpm, pb, po, hpa, hps⟩, ⟨hcl, hcm, _⟩, hr, hwd⟩ := hcs f hfl
  clear hcs
  unfold wholeP
  rw [getD_eq _ _ hfl] at *
  have hbd := findZ_bd m.funcs m.funcs[f].name
  obtain ⟨k, hk⟩ : ∃ k, k = findZ m.funcs m.funcs[f].name := ⟨_, rfl⟩
  rw [← hk] at hbd ⊢
  have Hk := Lib.hid hk; clear hk
  generalize hx : m.funcs[f] = x at *
  generalize H f = hh at *
  obtain ⟨pa, pl, pc, ca, cl, cc⟩ := hh
  dsimp only at *
  unfold maxLen at hlen hnm hpm hcm
  subst hpl hcl
  have hfb' : fb < w.heap.size := by omega
  have Hx := Lib.hid hx; clear hx
  have Hp := Lib.hid hps; clear hps
  by_cases hN : isNameB x.name = false
  · have HX : wholeQ x k f = (8, 0) := by simp [wholeQ, hN]
    have HY := Lib.hid HX; clear HX
    go_enter Tryd.func33, Tryd.ntmps33
    go_wp2_with (go_at_call 57; refine (isName_any _ _ hnm).mono ?_; rintro e w1 ⟨rfl, rfl⟩)
    go_ret2
    go_light
    exact ⟨ret_int2 HY.out.symm, (by repeat (first | with_reducible exact Below.refl _ _ | with_reducible assumption | with_reducible refine Below.drew ?_ | with_reducible refine Below.drewN ?_ _ | with_reducible refine Below.alloc ?_ (by first | omega | (simp <;> omega) | (simp at * <;> omega)) _ | with_reducible refine Below.setCell ?_ (by first | omega | (simp <;> omega) | (simp at * <;> omega)) _ | (with_reducible refine Below.trans ?_ (Below.mono (by first | with_reducible assumption | exact hF _) (by first | omega | (simp <;> omega) | (simp at * <;> omega))))))⟩
  · have hN1 : isNameB x.name = true := by simpa using hN
    clear hN
    by_cases h1 : k < f
    · have HX : wholeQ x k f = (9, 0) := by simp [wholeQ, hN1, h1]
      have HY := Lib.hid HX; clear HX
      go_enter Tryd.func33, Tryd.ntmps33
      go_wp2_with (first | (go_at_call 57; refine (isName_any _ _ hnm).mono ?_; rintro e w1 ⟨rfl, rfl⟩) | (go_at_call 35; refine (find_any B _ m _ _ ?_ (hm0.same ?_)).mono ?_))
      · exact (by first | omega | (simp <;> omega) | (simp at * <;> omega))
      · exact (by repeat (first | with_reducible exact Same.refl _ _ | with_reducible assumption | with_reducible refine Same.drew ?_ | with_reducible refine Same.drewN ?_ _ | with_reducible refine Same.alloc ?_ (by first | omega | (simp <;> omega) | (simp at * <;> omega)) _ | with_reducible refine Same.setCell ?_ (by first | omega | (simp <;> omega) | (simp at * <;> omega)) _ | (with_reducible refine Same.trans ?_ (Same.of (by assumption) (by first | omega | (simp <;> omega) | (simp at * <;> omega))))))
      rw [← Hk.out]
      rintro e w1 ⟨rfl, hb1⟩
      go_wp2
      go_ret2
      go_light
      exact ⟨ret_int2 HY.out.symm, (by repeat (first | with_reducible exact Below.refl _ _ | with_reducible assumption | with_reducible refine Below.drew ?_ | with_reducible refine Below.drewN ?_ _ | with_reducible refine Below.alloc ?_ (by first | omega | (simp <;> omega) | (simp at * <;> omega)) _ | with_reducible refine Below.setCell ?_ (by first | omega | (simp <;> omega) | (simp at * <;> omega)) _ | (with_reducible refine Below.trans ?_ (Below.mono (by first | with_reducible assumption | exact hF _) (by first | omega | (simp <;> omega) | (simp at * <;> omega))))))⟩
    · go_enter Tryd.func33, Tryd.ntmps33
      go_wp2_with (first | (go_at_call 57; refine (isName_any _ _ hnm).mono ?_; rintro e w1 ⟨rfl, rfl⟩) | (go_at_call 35; refine (find_any B _ m _ _ ?_ (hm0.same ?_)).mono ?_))
      · exact (by first | omega | (simp <;> omega) | (simp at * <;> omega))
      · exact (by repeat (first | with_reducible exact Same.refl _ _ | with_reducible assumption | with_reducible refine Same.drew ?_ | with_reducible refine Same.drewN ?_ _ | with_reducible refine Same.alloc ?_ (by first | omega | (simp <;> omega) | (simp at * <;> omega)) _ | with_reducible refine Same.setCell ?_ (by first | omega | (simp <;> omega) | (simp at * <;> omega)) _ | (with_reducible refine Same.trans ?_ (Same.of (by assumption) (by first | omega | (simp <;> omega) | (simp at * <;> omega))))))
      rw [← Hk.out]
      rintro e w1 ⟨rfl, hb1⟩
      obtain ⟨hc1, _⟩ := bcell hb1
      have hz1 : w.heap.size + 2 ≤ w1.heap.size := by have := hb1.size; simp at this; omega
      go_wp2
      · have HX := wholeQ_many x k f hN1 (by omega) (by omega)
        go_ret2
        go_light
        exact ⟨ret_int2 HX.symm, (by repeat (first | with_reducible exact Below.refl _ _ | with_reducible assumption | with_reducible refine Below.drew ?_ | with_reducible refine Below.drewN ?_ _ | with_reducible refine Below.alloc ?_ (by first | omega | (simp <;> omega) | (simp at * <;> omega)) _ | with_reducible refine Below.setCell ?_ (by first | omega | (simp <;> omega) | (simp at * <;> omega)) _ | (with_reducible refine Below.trans ?_ (Below.mono (by first | with_reducible assumption | exact hF _) (by first | omega | (simp <;> omega) | (simp at * <;> omega))))))⟩
      · have hp8 : ¬ 8 < x.params.length := by omega
        go_loopw [31] (fun i wr => ∃ j : Nat, j ≤ x.params.length ∧ i = .int .i64 j ∧ Below w1.heap.size w1 wr ∧ Hid (∀ i, i < j → emptyB (x.params.getD i default) = false)) (fun i _ => x.params.length - (intOf i).toNat)
        case atStart => exact ⟨0, Nat.zero_le _, rfl, Below.refl _ _, by intro j h; omega⟩
        case round =>
          obtain ⟨j, hj, rfl, hbel, hn⟩ := hrel
          obtain ⟨hd1, _⟩ := bcell hbel
          have hz2 : w1.heap.size ≤ wr.heap.size := hbel.size
          have hz3 : w.heap.size + 1 < w1.heap.size := by omega
          by_cases hlt : j < x.params.length
          · obtain ⟨rfl, hpb⟩ := hpa (by omega)
            obtain ⟨s0, s1, _, _⟩ := Hp.out j hlt
            rw [getD_eq _ _ hlt] at s0 s1
            have hpb' : pb < w.heap.size ∧ pb < w.heap.size + 1 ∧ pb < w.heap.size + 1 + 1 ∧ pb < w1.heap.size := by omega
            go_wp2
            all_goals first
              | (have HX := wholeQ_empty x k f j hN1 (by omega) (by omega) (first_some _ _ _ hlt (by go_light; rw [getD_eq _ _ hlt]; unfold emptyB; grind) hn.out)
                 go_ret2
                 go_light
                 exact ⟨ret_int2 HX.symm, (by repeat (first | with_reducible exact Below.refl _ _ | with_reducible assumption | with_reducible refine Below.drew ?_ | with_reducible refine Below.drewN ?_ _ | with_reducible refine Below.alloc ?_ (by first | omega | (simp <;> omega) | (simp at * <;> omega)) _ | with_reducible refine Below.setCell ?_ (by first | omega | (simp <;> omega) | (simp at * <;> omega)) _ | (with_reducible refine Below.trans ?_ (Below.mono (by first | with_reducible assumption | exact hF _) (by first | omega | (simp <;> omega) | (simp at * <;> omega))))))⟩)
              | (go_roundw
                 case rel =>
                   go_light
                   refine ⟨j + 1, by omega, by go_num, (by repeat (first | with_reducible exact Below.refl _ _ | with_reducible assumption | with_reducible refine Below.drew ?_ | with_reducible refine Below.drewN ?_ _ | with_reducible refine Below.alloc ?_ (by first | omega | (simp <;> omega) | (simp at * <;> omega)) _ | with_reducible refine Below.setCell ?_ (by first | omega | (simp <;> omega) | (simp at * <;> omega)) _ | (with_reducible refine Below.trans ?_ (Below.mono (by first | with_reducible assumption | exact hF _) (by first | omega | (simp <;> omega) | (simp at * <;> omega)))))), ?_⟩
                   intro i hi
                   by_cases e : i = j
                   · subst e; rw [getD_eq _ _ hlt]; unfold emptyB; grind
                   · exact hn.out i (by omega)
                 case measure => go_light; simp [intOf]; omega)
              | skip
            go_ways
          · have HX := wholeQ_tail x k f hN1 (by omega) (by omega) (first_none _ _ (fun i hi => hn.out i (by omega)))
            have HY := Lib.hid HX; clear HX
            go_wp2
            all_goals first | (go_ret2; go_light; refine ⟨ret_int2 ?_, (by repeat (first | with_reducible exact Below.refl _ _ | with_reducible assumption | with_reducible refine Below.drew ?_ | with_reducible refine Below.drewN ?_ _ | with_reducible refine Below.alloc ?_ (by first | omega | (simp <;> omega) | (simp at * <;> omega)) _ | with_reducible refine Below.setCell ?_ (by first | omega | (simp <;> omega) | (simp at * <;> omega)) _ | (with_reducible refine Below.trans ?_ (Below.mono (by first | with_reducible assumption | exact hF _) (by first | omega | (simp <;> omega) | (simp at * <;> omega))))))⟩; rw [HY.out]; unfold wholeTail; grind) | skip
            go_ways

end Go.Proofs.YtgpdggjpbmgegaaDoor
