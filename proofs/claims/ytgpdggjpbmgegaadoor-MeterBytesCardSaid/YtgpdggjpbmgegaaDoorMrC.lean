/- The reference machine (R20): the function of a name; whether arguments fit. -/
import Derived.Test.YtgpdggjpbmgegaaDoorMrB
namespace Go.Proofs.YtgpdggjpbmgegaaDoor
open Go.RowKit
set_option linter.unusedVariables false
set_option linter.unusedSimpArgs false


set_option maxRecDepth 100000 in
set_option maxHeartbeats 1000000 in
theorem mfind_any (B : Nat) (v : Value) (m : PMod) (s : ByteArray) (w : World) (hB : B ≤ w.heap.size) (hm : ModAt B w v m) :
    Calls Tryd.prog 50 #[v, .string s] w fun e w' => e = .returned (.int .i64 (findZ m.funcs s)) ∧ Below w.heap.size w w' := by
  obtain ⟨ta, tl, tc, fa, fl, fc, rfl, ht, hf⟩ := hm
  obtain ⟨hfl', hlen, fb, fo, hfa, H, hcs⟩ := hf
  subst hfl'
  have Hcs := Lib.hid hcs; clear hcs
  unfold maxLen at hlen
  go_enter Tryd.func50, Tryd.ntmps50
  go_wp2
  generalize hW0 : World.alloc _ _ = W0
  have hb0 : Below w.heap.size w W0 := by rw [← hW0]; exact (by repeat (first | with_reducible exact Below.refl _ _ | with_reducible assumption | with_reducible refine Below.drew ?_ | with_reducible refine Below.drewN ?_ _ | with_reducible refine Below.alloc ?_ (by first | omega | (simp <;> omega) | (simp at * <;> omega)) _ | with_reducible refine Below.setCell ?_ (by first | omega | (simp <;> omega) | (simp at * <;> omega)) _ | (with_reducible refine Below.trans ?_ (Below.mono (by first | with_reducible assumption | exact hF _) (by first | omega | (simp <;> omega) | (simp at * <;> omega))))))
  have O1 := Lib.hid (show Own W0 w.heap.size [.slice ta tl tc, .slice fa m.funcs.length fc] by rw [← hW0]; exact Own.new _ _ _)
  clear hW0
  have hz0 := O1.out.1
  go_loopw [5] (fun i wr => ∃ j : Nat, j ≤ m.funcs.length ∧ i = .int .i64 j ∧ Below W0.heap.size W0 wr ∧ Hid (∀ i, i < j → ((m.funcs.getD i default).name.toList == s.toList) = false)) (fun i _ => m.funcs.length - (intOf i).toNat)
  case atStart => exact ⟨0, Nat.zero_le _, rfl, Below.refl _ _, by intro j h; omega⟩
  case round =>
    obtain ⟨j, hj, rfl, hbel, hn⟩ := hrel
    have oa := own2 (O1.out.below hbel)
    have hz := hbel.size
    have hbw : Below w.heap.size w wr := hb0.trans (Below.mono hbel (by omega))
    by_cases hlt : j < m.funcs.length
    · have d2 : (j : Int) < (m.funcs.length : Int) := by omega
      have hwk : IntKind.i64.wrap ((j : Int) + 1) = (j : Int) + 1 := IntWalk.i64_in _ (by omega)
      have hwk0 : IntKind.i64.wrap (j : Int) = (j : Int) := IntWalk.i64_in _ (by omega)
      obtain ⟨rfl, hfb⟩ := hfa (by omega)
      obtain ⟨⟨u0, _⟩, _⟩ := Hcs.out j hlt
      have c0 := ((bcell hbw).1 fb _ (by omega)).trans u0
      have hfw : fb < wr.heap.size := by omega
      generalize hy : (m.funcs.getD j default).name = nj at *
      have Hy := Lib.hid hy; clear hy u0
      go_wp2
      · have hZ := findZ_some m.funcs s j hlt (by rw [Hy.out]; assumption) hn.out
        go_ret
        go_light
        exact ⟨ret_int hZ.symm, (by repeat (first | with_reducible exact Below.refl _ _ | with_reducible assumption | with_reducible refine Below.drew ?_ | with_reducible refine Below.drewN ?_ _ | with_reducible refine Below.alloc ?_ (by first | omega | (simp <;> omega) | (simp at * <;> omega)) _ | with_reducible refine Below.setCell ?_ (by first | omega | (simp <;> omega) | (simp at * <;> omega)) _ | (with_reducible refine Below.trans ?_ (Below.mono (by first | with_reducible assumption | exact hF _) (by first | omega | (simp <;> omega) | (simp at * <;> omega))))))⟩
      · go_roundw
        case rel =>
          refine ⟨j + 1, by omega, by simp, (by repeat (first | with_reducible exact Below.refl _ _ | with_reducible assumption | with_reducible refine Below.drew ?_ | with_reducible refine Below.drewN ?_ _ | with_reducible refine Below.alloc ?_ (by first | omega | (simp <;> omega) | (simp at * <;> omega)) _ | with_reducible refine Below.setCell ?_ (by first | omega | (simp <;> omega) | (simp at * <;> omega)) _ | (with_reducible refine Below.trans ?_ (Below.mono (by first | with_reducible assumption | exact hF _) (by first | omega | (simp <;> omega) | (simp at * <;> omega)))))), Lib.hid ?_⟩
          intro i hi
          by_cases e : i = j
          · subst e; rw [Hy.out]; assumption
          · exact hn.out i (by omega)
        case measure => go_light; first | omega | (simp only [intOf]; omega)
    · have hkn : j = m.funcs.length := by omega
      subst hkn
      have d2 : ¬ (m.funcs.length : Int) < (m.funcs.length : Int) := by omega
      have hZ := Lib.hid (findZ_none m.funcs s hn.out)
      go_wp2
      go_ret
      go_light
      exact ⟨ret_int hZ.out.symm, (by repeat (first | with_reducible exact Below.refl _ _ | with_reducible assumption | with_reducible refine Below.drew ?_ | with_reducible refine Below.drewN ?_ _ | with_reducible refine Below.alloc ?_ (by first | omega | (simp <;> omega) | (simp at * <;> omega)) _ | with_reducible refine Below.setCell ?_ (by first | omega | (simp <;> omega) | (simp at * <;> omega)) _ | (with_reducible refine Below.trans ?_ (Below.mono (by first | with_reducible assumption | exact hF _) (by first | omega | (simp <;> omega) | (simp at * <;> omega))))))⟩

set_option maxRecDepth 100000 in
set_option maxHeartbeats 1000000 in
theorem mfits_any (B : Nat) (nm : ByteArray) (pa ca : Option Addr) (pl pc cl cc : Nat) (regs wd : Int) (ps : List PSpan) (aa : Option Addr) (al ac : Nat) (xs : List Int) (w : World) (hB : B ≤ w.heap.size) (hp : SpansAt B w pa pl ps) (ha : NumsAt w.heap.size w aa al xs) :
    Calls Tryd.prog 51 #[.agg #[.string nm, .slice pa pl pc, .int .i64 regs, .int .i64 wd, .slice ca cl cc], .slice aa al ac] w fun e w' => e = .returned (.bool (fitsB ps xs)) ∧ Below w.heap.size w w' := by
  obtain ⟨hpl, hpm, pb, po, hpa, hps⟩ := hp
  obtain ⟨hal, ham, ab, ao, haa, has⟩ := ha
  subst hpl hal
  have Hps := Lib.hid hps; clear hps
  have Has := Lib.hid has; clear has
  unfold maxLen at hpm ham
  by_cases hL : xs.length = ps.length
  · have d0 : ((xs.length : Int) != (ps.length : Int)) = false := by simp [hL]
    have HL := Lib.hid hL
    have hle : xs.length ≤ ps.length ∧ ps.length ≤ xs.length := by omega
    clear hL
    go_enter Tryd.func51, Tryd.ntmps51
    go_wp2
    generalize hW0 : World.alloc _ _ = W0
    have hb0 : Below w.heap.size w W0 := by rw [← hW0]; exact (by repeat (first | with_reducible exact Below.refl _ _ | with_reducible assumption | with_reducible refine Below.drew ?_ | with_reducible refine Below.drewN ?_ _ | with_reducible refine Below.alloc ?_ (by first | omega | (simp <;> omega) | (simp at * <;> omega)) _ | with_reducible refine Below.setCell ?_ (by first | omega | (simp <;> omega) | (simp at * <;> omega)) _ | (with_reducible refine Below.trans ?_ (Below.mono (by first | with_reducible assumption | exact hF _) (by first | omega | (simp <;> omega) | (simp at * <;> omega))))))
    have O1 := Lib.hid (show Own W0 w.heap.size [.string nm, .slice pa ps.length pc, .int .i64 regs, .int .i64 wd, .slice ca cl cc] by rw [← hW0]; exact Own.new _ _ _)
    clear hW0
    have hz0 := O1.out.1
    go_loopw [5] (fun i wr => ∃ k : Nat, k ≤ xs.length ∧ i = .int .i64 k ∧ Below W0.heap.size W0 wr ∧ Hid (∀ i, i < k → fitAt ps xs i = true)) (fun i _ => xs.length - (intOf i).toNat)
    case atStart => exact ⟨0, Nat.zero_le _, rfl, Below.refl _ _, by intro i h; omega⟩
    case round =>
      obtain ⟨k, hk, rfl, hbel, hn⟩ := hrel
      have hz := hbel.size
      have oa := own5 (O1.out.below hbel)
      have hbw : Below w.heap.size w wr := hb0.trans (Below.mono hbel (by omega))
      by_cases hlt : k < xs.length
      · have hltp : k < ps.length := by omega
        have d9 : (k : Int) < (xs.length : Int) := by omega
        have d8 : (k : Int) < (ps.length : Int) := by omega
        have hwk : IntKind.i64.wrap ((k : Int) + 1) = (k : Int) + 1 := IntWalk.i64_in _ (by omega)
        have hwk0 : IntKind.i64.wrap (k : Int) = (k : Int) := IntWalk.i64_in _ (by omega)
        obtain ⟨rfl, hpb⟩ := hpa (by omega)
        obtain ⟨rfl, hab⟩ := haa (by omega)
        obtain ⟨s0, s1, _, _⟩ := Hps.out k hltp
        obtain ⟨a0, _⟩ := Has.out k hlt
        have hc1 := (bcell hbw).1
        have t0 := (hc1 pb _ (by omega)).trans s0
        have t1 := (hc1 pb _ (by omega)).trans s1
        have t2 := (hc1 ab _ (by omega)).trans a0
        clear hc1 s0 s1 a0
        have hfit : fitAt ps xs k = inB (ps.getD k default) (xs.getD k 0) := rfl
        generalize ps.getD k default = p at *
        generalize xs.getD k 0 = x at *
        obtain ⟨lo, hi⟩ := p
        unfold inB at hfit
        dsimp only at *
        have Hfit := Lib.hid hfit; clear hfit
        have hpz : pb < wr.heap.size ∧ ab < wr.heap.size := by omega
        by_cases h1 : x < lo
        · have d1 : decide (x < lo) = true := by simpa using h1
          go_wp2
          go_quiet (fail)
          go_wp2
          go_ret
          go_light
          exact ⟨ret_bool (fitsB_not _ _ k hltp (by rw [Hfit.out]; simp [h1])).symm, (by repeat (first | with_reducible exact Below.refl _ _ | with_reducible assumption | with_reducible refine Below.drew ?_ | with_reducible refine Below.drewN ?_ _ | with_reducible refine Below.alloc ?_ (by first | omega | (simp <;> omega) | (simp at * <;> omega)) _ | with_reducible refine Below.setCell ?_ (by first | omega | (simp <;> omega) | (simp at * <;> omega)) _ | (with_reducible refine Below.trans ?_ (Below.mono (by first | with_reducible assumption | exact hF _) (by first | omega | (simp <;> omega) | (simp at * <;> omega))))))⟩
        · have d1 : decide (x < lo) = false := by simpa using h1
          by_cases h2 : hi < x
          · have d2 : decide (hi < x) = true := by simpa using h2
            go_wp2
            go_quiet (fail)
            go_wp2
            go_ret
            go_light
            exact ⟨ret_bool (fitsB_not _ _ k hltp (by rw [Hfit.out]; simp [h2])).symm, (by repeat (first | with_reducible exact Below.refl _ _ | with_reducible assumption | with_reducible refine Below.drew ?_ | with_reducible refine Below.drewN ?_ _ | with_reducible refine Below.alloc ?_ (by first | omega | (simp <;> omega) | (simp at * <;> omega)) _ | with_reducible refine Below.setCell ?_ (by first | omega | (simp <;> omega) | (simp at * <;> omega)) _ | (with_reducible refine Below.trans ?_ (Below.mono (by first | with_reducible assumption | exact hF _) (by first | omega | (simp <;> omega) | (simp at * <;> omega))))))⟩
          · have d2 : decide (hi < x) = false := by simpa using h2
            go_wp2
            go_quiet (fail)
            go_wp2
            go_roundw
            case rel =>
              go_light
              refine ⟨k + 1, by omega, by go_num, (by repeat (first | with_reducible exact Below.refl _ _ | with_reducible assumption | with_reducible refine Below.drew ?_ | with_reducible refine Below.drewN ?_ _ | with_reducible refine Below.alloc ?_ (by first | omega | (simp <;> omega) | (simp at * <;> omega)) _ | with_reducible refine Below.setCell ?_ (by first | omega | (simp <;> omega) | (simp at * <;> omega)) _ | (with_reducible refine Below.trans ?_ (Below.mono (by first | with_reducible assumption | exact hF _) (by first | omega | (simp <;> omega) | (simp at * <;> omega)))))), ?_⟩
              intro i hi
              by_cases e : i = k
              · subst e; rw [Hfit.out, d1, d2]; rfl
              · exact hn.out i (by omega)
            case measure => go_light; simp [intOf]; omega
      · go_wp2
        go_ret
        go_light
        exact ⟨ret_bool (fitsB_yes _ _ HL.out (fun i hi => hn.out i (by omega))).symm, (by repeat (first | with_reducible exact Below.refl _ _ | with_reducible assumption | with_reducible refine Below.drew ?_ | with_reducible refine Below.drewN ?_ _ | with_reducible refine Below.alloc ?_ (by first | omega | (simp <;> omega) | (simp at * <;> omega)) _ | with_reducible refine Below.setCell ?_ (by first | omega | (simp <;> omega) | (simp at * <;> omega)) _ | (with_reducible refine Below.trans ?_ (Below.mono (by first | with_reducible assumption | exact hF _) (by first | omega | (simp <;> omega) | (simp at * <;> omega))))))⟩
  · have d0 : ((xs.length : Int) != (ps.length : Int)) = true := by simp; omega
    have HX := Lib.hid (fitsB_len _ _ hL)
    clear hL
    go_enter Tryd.func51, Tryd.ntmps51
    go_wp2
    go_ret
    go_light
    exact ⟨ret_bool HX.out.symm, (by repeat (first | with_reducible exact Below.refl _ _ | with_reducible assumption | with_reducible refine Below.drew ?_ | with_reducible refine Below.drewN ?_ _ | with_reducible refine Below.alloc ?_ (by first | omega | (simp <;> omega) | (simp at * <;> omega)) _ | with_reducible refine Below.setCell ?_ (by first | omega | (simp <;> omega) | (simp at * <;> omega)) _ | (with_reducible refine Below.trans ?_ (Below.mono (by first | with_reducible assumption | exact hF _) (by first | omega | (simp <;> omega) | (simp at * <;> omega))))))⟩
end Go.Proofs.YtgpdggjpbmgegaaDoor
