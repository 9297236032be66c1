import Derived.Test.YtgpdggjpbmgegaaDoorEngE
import Derived.Test.YtgpdggjpbmgegaaDoorAppend
namespace Go.Proofs.YtgpdggjpbmgegaaDoor
open Go.RowKit
set_option linter.unusedVariables false
set_option linter.unusedSimpArgs false


set_option maxRecDepth 100000 in
set_option maxHeartbeats 1000000 in
theorem fits_any (B : Nat) (gb go : Nat) (h : HF) (f : PFunc) (aa : Option Addr) (al ac : Nat) (xs : List Int) (w : World) (hB : B ≤ w.heap.size) (hg : FuncCells w gb go h f) (hgb : gb < w.heap.size) (hp : SpansAt B w h.pa h.pl f.params) (ha : NumsAt w.heap.size w aa al xs) :
    Calls Tryd.prog 36 #[.pointer (some ⟨gb, go, none⟩), .slice aa al ac] w fun e w' => e = .returned (.bool (fitsB f.params xs)) ∧ Below w.heap.size w w' := by
  obtain ⟨g0, g1, g2, g3, g4⟩ := hg
  obtain ⟨hpl, hpm, pb, po, hpa, hps⟩ := hp
  obtain ⟨hal, ham, ab, ao, haa, has⟩ := ha
  obtain ⟨pa, pl, pc, ca, cl, cc⟩ := h
  dsimp only at *
  subst hpl hal
  have Hps := Lib.hid hps; clear hps
  have Has := Lib.hid has; clear has
  unfold maxLen at hpm ham
  by_cases hL : xs.length = f.params.length
  · have d0 : ((xs.length : Int) != (f.params.length : Int)) = false := by simp [hL]
    have HL := Lib.hid hL
    have hle : xs.length ≤ f.params.length ∧ f.params.length ≤ xs.length := by omega
    clear hL
    go_enter Tryd.func36, Tryd.ntmps36
    go_wp2
    go_loopw [20] (fun i wr => ∃ k : Nat, k ≤ f.params.length ∧ i = .int .i64 k ∧ Below w.heap.size w wr ∧ Hid (∀ i, i < k → fitAt f.params xs i = true)) (fun i _ => f.params.length - (intOf i).toNat)
    case atStart => exact ⟨0, Nat.zero_le _, rfl, Below.refl _ _, by intro i h; omega⟩
    case round =>
      obtain ⟨k, hk, rfl, hbel, hn⟩ := hrel
      have hz := hbel.size
      by_cases hlt : k < f.params.length
      · obtain ⟨rfl, hpb⟩ := hpa (by omega)
        obtain ⟨rfl, hab⟩ := haa (by omega)
        obtain ⟨s0, s1, _, _⟩ := Hps.out k hlt
        obtain ⟨a0, _⟩ := Has.out k (by omega)
        have hc1 := (bcell hbel).1
        have t0 := (hc1 pb _ (by omega)).trans s0
        have t1 := (hc1 pb _ (by omega)).trans s1
        have t2 := (hc1 ab _ (by omega)).trans a0
        clear hc1 s0 s1 a0
        have hfit : fitAt f.params xs k = inB (f.params.getD k default) (xs.getD k 0) := rfl
        generalize f.params.getD k default = p at *
        generalize xs.getD k 0 = x at *
        obtain ⟨lo, hi⟩ := p
        unfold inB at hfit
        dsimp only at *
        have Hfit := Lib.hid hfit; clear hfit
        have hpz : pb < wr.heap.size ∧ ab < wr.heap.size := by omega
        have hal : k < xs.length := by omega
        by_cases h1 : x < lo
        · have d1 : decide (x < lo) = true := by simpa using h1
          go_wp2
          go_quiet (fail)
          go_wp2
          go_ret
          go_light
          exact ⟨ret_bool (fitsB_not _ _ k hlt (by rw [Hfit.out]; simp [h1])).symm, (by repeat (first | with_reducible exact Below.refl _ _ | with_reducible assumption | with_reducible refine Below.drew ?_ | with_reducible refine Below.drewN ?_ _ | with_reducible refine Below.alloc ?_ (by first | omega | (simp <;> omega) | (simp at * <;> omega)) _ | with_reducible refine Below.setCell ?_ (by first | omega | (simp <;> omega) | (simp at * <;> omega)) _ | (with_reducible refine Below.trans ?_ (Below.mono (by first | with_reducible assumption | exact hF _) (by first | omega | (simp <;> omega) | (simp at * <;> omega))))))⟩
        · have d1 : decide (x < lo) = false := by simpa using h1
          by_cases h2 : hi < x
          · have d2 : decide (hi < x) = true := by simpa using h2
            go_wp2
            go_quiet (fail)
            go_wp2
            go_ret
            go_light
            exact ⟨ret_bool (fitsB_not _ _ k hlt (by rw [Hfit.out]; simp [h2])).symm, (by repeat (first | with_reducible exact Below.refl _ _ | with_reducible assumption | with_reducible refine Below.drew ?_ | with_reducible refine Below.drewN ?_ _ | with_reducible refine Below.alloc ?_ (by first | omega | (simp <;> omega) | (simp at * <;> omega)) _ | with_reducible refine Below.setCell ?_ (by first | omega | (simp <;> omega) | (simp at * <;> omega)) _ | (with_reducible refine Below.trans ?_ (Below.mono (by first | with_reducible assumption | exact hF _) (by first | omega | (simp <;> omega) | (simp at * <;> omega))))))⟩
          · have d2 : decide (hi < x) = false := by simpa using h2
            go_wp2
            go_quiet (fail)
            go_wp2
            go_roundw
            case rel =>
              go_light
              refine ⟨k + 1, by omega, by go_num, (by repeat (first | with_reducible exact Below.refl _ _ | with_reducible assumption | with_reducible refine Below.drew ?_ | with_reducible refine Below.drewN ?_ _ | with_reducible refine Below.alloc ?_ (by first | omega | (simp <;> omega) | (simp at * <;> omega)) _ | with_reducible refine Below.setCell ?_ (by first | omega | (simp <;> omega) | (simp at * <;> omega)) _ | (with_reducible refine Below.trans ?_ (Below.mono (by first | with_reducible assumption | exact hF _) (by first | omega | (simp <;> omega) | (simp at * <;> omega)))))), ?_⟩
              intro i hi
              by_cases e : i = k
              · subst e; rw [Hfit.out, d1, d2]; rfl
              · exact hn.out i (by omega)
            case measure => go_light; simp [intOf]; omega
      · go_wp2
        go_ret
        go_light
        exact ⟨ret_bool (fitsB_yes _ _ HL.out (fun i hi => hn.out i (by omega))).symm, (by repeat (first | with_reducible exact Below.refl _ _ | with_reducible assumption | with_reducible refine Below.drew ?_ | with_reducible refine Below.drewN ?_ _ | with_reducible refine Below.alloc ?_ (by first | omega | (simp <;> omega) | (simp at * <;> omega)) _ | with_reducible refine Below.setCell ?_ (by first | omega | (simp <;> omega) | (simp at * <;> omega)) _ | (with_reducible refine Below.trans ?_ (Below.mono (by first | with_reducible assumption | exact hF _) (by first | omega | (simp <;> omega) | (simp at * <;> omega))))))⟩
  · have d0 : ((xs.length : Int) != (f.params.length : Int)) = true := by simp; omega
    have HX := Lib.hid (fitsB_len _ _ hL)
    clear hL
    go_enter Tryd.func36, Tryd.ntmps36
    go_wp2
    go_ret
    go_light
    exact ⟨ret_bool HX.out.symm, (by repeat (first | with_reducible exact Below.refl _ _ | with_reducible assumption | with_reducible refine Below.drew ?_ | with_reducible refine Below.drewN ?_ _ | with_reducible refine Below.alloc ?_ (by first | omega | (simp <;> omega) | (simp at * <;> omega)) _ | with_reducible refine Below.setCell ?_ (by first | omega | (simp <;> omega) | (simp at * <;> omega)) _ | (with_reducible refine Below.trans ?_ (Below.mono (by first | with_reducible assumption | exact hF _) (by first | omega | (simp <;> omega) | (simp at * <;> omega))))))⟩
end Go.Proofs.YtgpdggjpbmgegaaDoor
